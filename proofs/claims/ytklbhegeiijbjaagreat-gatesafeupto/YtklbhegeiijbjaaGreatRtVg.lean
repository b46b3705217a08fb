/- a part of a proof of GateSafe -/
import Derived.WalkKit
import Derived.WalkLawsBesides
import Derived.Maps.AppendAt
import Derived.OrdersHeld
import Derived.Laws.IdiomStrings
import Derived.Maps.RangeRun
import Derived.Lib.BytesEntry
import Derived.Lib.Bytealg
import Derived.Laws.Externs
import Derived.ChangeKeysEq
import Derived.Deep.AppendSrc
import Derived.Laws.MakeOwn
set_option linter.all false
namespace Go.Proofs.YtklbhegeiijbjaaGreat
open Go.RowKit
def aA := @Option.bind_some
def aB := @Bool.false_eq_true
def aD := @List.length_append
def aI := @List.length_cons
def aJ := @Int.natCast_nonneg
def aK := @if_false
def aM := @List.mem_cons
def aO := @Nat.exists_eq_succ_of_ne_zero
def aP := @List.drop_length
def aQ := @List.append_assoc
def aR := @List.mem_append
def aS := @if_true
def aT := @Nat.le_refl
def aU := @run_underlying
def aV := @List.eq_nil_of_length_eq_zero
def aW := @List.cons.injEq
def aX := @if_neg
def aY := @congrArg
def aZ := @if_pos
def bA := @Bool.and_eq_true
def bD := @List.mem_map
def bE := @List.mem_singleton
def bF := @List.map_cons
def bG := @List.getElem?_eq_some_iff
def bH := @List.Perm.refl
def bJ := @List.flatten_cons
def bL := @Nat.lt_succ_self
def bM := @Result.andThen_ok
def bN := @List.nil_append
def bQ := @List.length_nil
def bT := @beq_self_eq_true
def bU := @Bool.not_true
def bV := @List.append_nil
def bW := @List.nodup_append
def bX := @decide_eq_true_eq
def bZ := @decide_true
def cA := @List.Perm.append_left
def cC := @Sem.run_bind
def cD := @decide_false
def cE := @List.cons_append
def cH := @List.not_mem_nil
def cI := @List.mem_append_left
def cJ := @List.map_append
def cN := @List.pairwise_cons
def cO := @Nat.add_mul
def cP := @Nat.mul_le_mul_right
def cQ := @List.mem_filter
def cR := @List.flatten_append
def cU := @Bool.eq_iff_iff
def cV := @Sem.run_pure
def cW := @List.getElem?_eq_getElem
def cX := @List.pairwise_append
def cY := @List.length_map
def dA := @Array.length_toList
def dB := @List.flatten_nil
def dC := @List.mem_of_getElem?
def dE := @and_true
def dF := @Array.getElem?_modify
def dH := @List.nodup_cons
def dI := @Array.getElem?_eq_some_iff
def dJ := @Calls.mono
def dK := @List.length_take
def dL := @DataW.trod_struct
def dM := @Nat.le_trans
def dN := @List.take_of_length_le
def dQ := @Nat.min_eq_left
def dR := @Array.getElem?_toList
def dS := @List.eq_nil_or_concat
def dT := @Addr.add_lit
def dU := @List.size_toArray
def dX := @Int.toNat_natCast
def dY := @List.getElem?_drop
def dZ := @Option.map_some
def eA := @Nat.zero_le
def eH := @List.mem_append_right
def eJ := @List.getElem?_take_of_lt
def eU := @Bool.eq_false_or_eq_true
def eW := @Nat.lt_of_lt_of_le
def eX := @List.length_eq_zero_iff
def eY := @or_false
def fA := @List.findIdx?_eq_some_iff_getElem
def fB := @List.map_map
def fE := @Bool.not_false
def fG := @List.concat_eq_append
def fH := @Nat.eq_zero_or_pos
def fI := @List.length_zipIdx
def fJ := @Nat.add_assoc
def fN := @List.ext_getElem?
def fO := @bne_self_eq_false
def fP := @Array.getD_eq_getD_getElem?
def fS := @List.perm_middle
def fT := @List.getElem?_append_right
def fU := @List.findIdx?_cons
def fV := @List.find?_eq_none
def fW := @List.perm_append_comm
def fX := @Classical.byContradiction
def fY := @List.find?_cons
def fZ := @List.getElem?_set
def gk := @List.getElem?_map
def gm := @List.mem_cons_of_mem
def gp := @Nat.zero_add
def gv := @of_decide_eq_true
def gB := @Bool.not_eq_true'
def gE := @Bool.true_and
def gF := @List.sum_cons
def gG := @ByteArray.toList_eq
def gH := @List.take_append
def gJ := @decide_eq_true
def gK := @List.getElem?_take
def gL := @List.map_nil
def gO := @Bool.or_eq_true
def gT := @List.singleton_append
def gU := @List.getElem?_eq_none
def gV := @List.length_filter_le
def gW := @Function.comp_def
def gX := @List.pairwise_map
def gY := @List.perm_append_comm_assoc
def ie := @List.getElem?_append
def ig := @List.forall_mem_cons
def ij := @List.perm_append_singleton
def iu := @Bool.not_not
def iv := @List.filter_cons
def iw := @List.getElem?_append_left
def iy := @List.mem_of_find?_eq_some
def iz := @List.findIdx?_eq_none_iff
def iA := @List.Perm.nodup_iff
def iB := @List.map_congr_left
def iG := @Oper.upon_value
def iH := @Oper.upon_enter
def iJ := @eq_iff_iff
def iK := @cell_of_row
def iL := @List.getElem?_cons_zero
def iM := @List.pairwise_mergeSort
def iN := @List.pairwise_singleton
def iO := @Oper.upon_skip
def iP := @List.take_take
def iQ := @List.findIdx?_map
def iR := @Option.some.injEq
def iS := @List.Perm.append_right
def iX := @List.flatMap_cons
def iY := @Nat.div_lt_iff_lt_mul
def iZ := @List.take_append_drop
def ja := @List.length_replicate
def jb := @List.length_drop
def jc := @Option.getD_some
def jh := @List.findIdx?_append
def jl := @List.foldl_cons
def jm := @List.length_set
def jq := @run_callFunc_extern
def jr := @List.mergeSort_perm
def js := @List.flatMap_append
def jt := @List.take_length_add_append
def jz := @run_loadCells_list
def jA := @grownCap_le_maxLen
def jB := @List.drop_take
def jC := @List.map_replicate
def jD := @Option.isNone_none
def jE := @List.map_mergeSort
def jS := @UInt8.toNat_lt
def jT := @Bool.and_assoc
def jU := @Bool.false_and
def jV := @Nat.le_succ
def jW := @run_storeCells_at
def ku := @UInt8.ofNat_toNat
def kv := @List.find?_append
def kw := @List.any_eq_false
def ky := @ByteArray.ext
def kC := @List.mem_flatten
def kD := @List.zipIdx_cons
def kE := @List.all_eq_true
def kI := @Bool.not_eq_true
def kJ := @List.any_eq_true
def kK := @List.mem_flatMap
def kL := @Nat.add_zero
def kM := @beq_iff_eq
def kT := @List.find?_some
def kW := @Nat.one_mul
def kX := @getD_set_ne
def lb := @mem_ready
def pP (E : Nat → Value) (d : Nat) (v : Value) : Nat → Value := fun t => if t = d then v else E t
def lC (E : Nat → Value) : Operand → Value
 | .tmp t => E t
 | .const v => v
 | .global g => .pointer (some ⟨g, 0, none⟩)
 | .func f => .func (.func f) #[] #[]
def Ag (n : Nat) (a : Act) (E : Nat → Value) : Prop := a.tmps.size = n ∧ a.defers = [] ∧ ∀ t, a.tmps.getD t undef = E t
section
variable {n : Nat} {a : Act} {E : Nat → Value}
theorem Ag.eval (h : Ag n a E) : a.eval = lC E := by
 funext x
 cases x with
 | tmp t => exact h.2.2 t
 | const v => rfl
 | global g => rfl
 | func f => rfl
theorem Ag.put (h : Ag n a E) {d : Nat} (g : d < n) (v : Value) : Ag n (a.put (some d) v) (pP E d v) := by
 refine ⟨by simp [Act.put, h.1], h.2.1, fun t => ?_⟩
 have c := h.2.2 t
 simp only [Act.put, pP]
 by_cases b : t = d
 ·subst b
  simp [h.1, g]
 ·have : ¬ d = t := fun e => b e.symm
  rw [aX b, ← c]
  simp [fP, this]
theorem Ag.An (h : Ag n a E) (v : Value) : Ag n (a.put none v) E := h
theorem Ag.yield (h : Ag n a E) {ops : Array Oper} {j t : Nat} {b : Bool} (d : (ops[j]?).bind (·.dst) = some t) (i : t < n) (k : E t = .bool b) : yielded ops a.tmps j = some b := by
 have c := h.2.2 t
 have g : a.tmps[t]? = some (E t) := by
  rw [← c]
  simp [fP, h.1, i]
 simp [yielded, d, g, k]
end
abbrev sm := Exit → (Nat → Value) → World → Prop
def lift (n : Nat) (Q : sm) : Exit → Act → World → Prop
 | .panic _, _, _ => False
 | .outgrown, _, _ => False
 | e, a, w => ∃ E, Ag n a E ∧ Q e E w
def CW (P : Program) (n : Nat) (c : Code) (Q : sm) (E : Nat → Value) (W : World) : Prop := ∀ a, Ag n a E → c.wp P (lift n Q) a W
def LW (P : Program) (n : Nat) (ops : Array Oper) (Q : sm) (l : List Oper) (E : Nat → Value) (W : World) : Prop := ∀ a, Ag n a E → wpList P ops (lift n Q) l a W
def rY (K : (Nat → Value) → World → Prop) (Q : sm) : sm
 | .normal, E, W => K E W
 | e, E, W => Q e E W
def xC (id : Nat) (Q : sm) : sm
 | .exit j, E, W => if j = id then Q .normal E W else Q (.exit j) E W
 | e, E, W => Q e E W
section
variable {P : Program} {n : Nat} {Q : sm} {E : Nat → Value} {W : World} {c x y : Code} {ops : Array Oper} {rest : List Oper} {o : Oper}
theorem HP {Q' : sm} (h : CW P n c Q E W) (g : ∀ e E W, Q e E W → Q' e E W) : CW P n c Q' E W := fun a ha =>
 wp_mono (h a ha) (fun e _ _ h => by
  cases e with
  | panic c => exact h
  | outgrown => exact h
  | _ => obtain ⟨E', b, d⟩ := h; exact ⟨E', b, g _ _ _ d⟩)
theorem lH (h : CW P n x (rY (fun E W => CW P n y Q E W) Q) E W) : CW P n (.seq x y) Q E W := fun a ha =>
 wp_seq (wp_mono (h a ha) (fun e c g h => by
  cases e with
  | normal => obtain ⟨E', b, d⟩ := h; exact d c b
  | _ => exact h))
theorem mX (h : Q .normal E W) : CW P n .skip Q E W := fun _ ha => wp_skip ⟨E, ha, h⟩
theorem mi (h : Q .ret E W) : CW P n .ret Q E W := fun _ ha => wp_ret ⟨E, ha, h⟩
theorem oI {id : Nat} (h : Q (.exit id) E W) : CW P n (.exit id) Q E W := fun _ ha => wp_exit ⟨E, ha, h⟩
theorem nz {id : Nat} (h : CW P n c (xC id Q) E W) : CW P n (.block id c) Q E W := fun a ha =>
 wp_block (wp_mono (h a ha) (fun e i k h => by
  cases e with
  | exit j =>
   obtain ⟨E', b, d⟩ := h
   simp only [Exit.inBlock]
   simp only [xC] at d
   split at d
   ·rename_i g; rw [aZ g]; exact ⟨E', b, d⟩
   ·rename_i g; rw [aX g]; exact ⟨E', b, d⟩
  | _ => exact h))
theorem MF {co : Operand} {b : Bool} (c : lC E co = .bool b) (g : b = true → CW P n x Q E W) (d : b = false → CW P n y Q E W) : CW P n (.cond co x y) Q E W := fun a ha => by
 refine wp_cond_split (t := b) (by rw [ha.eval]; exact c) (fun h => g h a ha) (fun h => d h a ha)
theorem wv {co : Operand} (a : lC E co = .bool true) (h : CW P n x Q E W) : CW P n (.cond co x y) Q E W := MF a (fun _ => h) (fun h => by cases h)
theorem re {co : Operand} (a : lC E co = .bool false) (h : CW P n y Q E W) : CW P n (.cond co x y) Q E W := MF a (fun h => by cases h) (fun _ => h)
theorem lG {id : Nat} {l : List Oper} (h : LW P n l.toArray Q l E W) : CW P n (.region id l.toArray false) Q E W := fun a ha => wp_region_lit (h a ha)
theorem me (h : Q .normal E W) : LW P n ops Q [] E W := fun _ ha => wpList_nil ⟨E, ha, h⟩
theorem IV {P : Program} {c : Code} {Q : Exit → Act → World → Prop} {a : Act} {w : World} (I : Nat → Act → World → Prop) (m : Nat) (u : I m a w) (round : ∀ m a w, I m a w → c.wp P (Exit.then (fun q r => ∃ y, y < m ∧ I y q r) Q) a w) : (Code.loop c).wp P Q a w := by
 intro b k cs
 have key : ∀ m a w, I m a w → ∃ e q r, Q e q r ∧ Arrives P (lone (b.at a (.code c :: .inLoop c :: k)) cs w) b k cs e q r := by
  intro m
  induction m using Nat.strongRecOn with
  | _ m ih =>
   intro a w A
   obtain ⟨e, g, h, j, d⟩ := round m a w A b (.inLoop c :: k) cs
   cases e with
   | normal =>
    obtain ⟨y, z, n⟩ := j
    obtain ⟨t, s, v, o, i⟩ := ih y z g h n
    exact ⟨t, s, v, o, .of_steps (Steps.trans d (.one step_inLoop)) i⟩
   | exit id => exact ⟨_, g, h, j, .pass (x := .inLoop c) rfl (fun _ _ => .inl (by simp)) d⟩
   | goto l => exact ⟨_, g, h, j, .pass (x := .inLoop c) rfl (fun _ _ => .inl (by simp)) d⟩
   | ret => exact ⟨_, g, h, j, .pass (x := .inLoop c) rfl (fun _ _ => .inl (by simp)) d⟩
   | panic D => exact ⟨_, g, h, j, .pass (x := .inLoop c) rfl (fun _ _ => .inl (by simp)) d⟩
   | outgrown => exact ⟨_, g, h, j, .pass (x := .inLoop c) rfl (fun _ _ => .inl (by simp)) d⟩
 obtain ⟨e, q, r, j, d⟩ := key m a w u
 exact ⟨e, q, r, j, .of_steps (.one step_loop) d⟩
theorem ph (I : Nat → (Nat → Value) → World → Prop) (m : Nat) (b : I m E W) (round : ∀ m E W, I m E W → CW P n c (rY (fun E' W' => ∃ d, d < m ∧ I d E' W') Q) E W) : CW P n (.loop c) Q E W := fun a ha =>
 IV (fun m a w => ∃ E, Ag n a E ∧ I m E w) m ⟨E, ha, b⟩ (fun m a w ⟨E, ha, k⟩ =>
  wp_mono (round m E w k a ha) (fun e l o h => by
   cases e with
   | normal => obtain ⟨E', i, d, j, g⟩ := h; exact ⟨d, j, E', i, g⟩
   | _ => exact h))
def lT (n : Nat) (ops : Array Oper) (E : Nat → Value) (o : Oper) : Prop :=
 o.guard = none ∨ ∃ j want t, o.guard = some (j, want) ∧ (ops[j]?).bind (·.dst) = some t ∧ t < n ∧ E t = .bool want
theorem lT.of {a : Act} (h : lT n ops E o) (ha : Ag n a E) : Region.wanted o (yielded ops a.tmps) = true := by
 rcases h with h | ⟨j, want, t, c, d, g, b⟩
 ·simp [Region.wanted, h]
 ·simp [Region.wanted, c, ha.yield d g b]
theorem NP {d : Nat} {v : Value} {W' : World} (hw : lT n ops E o) (b : o.dst = some d) (c : d < n) (g : (execOp (lC E) o).run P W = .ok (.value v) W') (h : LW P n ops Q rest (pP E d v) W') : LW P n ops Q (o :: rest) E W := fun a ha => by
 unfold wpList
 rw [aZ (hw.of ha)]
 refine .inl ?_
 unfold Oper.wp
 rw [ha.eval, g, iG, b]
 exact h _ (ha.put c v)
theorem OD {W' : World} (hw : lT n ops E o) (b : o.dst = none) (c : (execOp (lC E) o).run P W = .ok .skip W') (h : LW P n ops Q rest E W') : LW P n ops Q (o :: rest) E W := fun a ha => by
 unfold wpList
 rw [aZ (hw.of ha)]
 refine .inl ?_
 unfold Oper.wp
 rw [ha.eval, c, iO, b]
 exact h _ (ha.An _)
theorem OY {f : FuncId} {args : Array Value} {d : Nat} (hw : lT n ops E o) (c : o.dst = some d) (i : d < n) (j : (execOp (lC E) o).run P W = .ok (.enter f args) W) (h : Calls P f args W fun e b => ∃ v, e = .returned v ∧ LW P n ops Q rest (pP E d v) b) : LW P n ops Q (o :: rest) E W := fun a ha => by
 unfold wpList
 rw [aZ (hw.of ha)]
 refine .inl ?_
 unfold Oper.wp
 rw [ha.eval, j, iH]
 refine h.mono ?_
 rintro e b ⟨v, rfl, g⟩
 simp only [c]
 exact g _ (ha.put i v)
theorem SI {d j t : Nat} {want : Bool} (c : o.dst = some d) (k : d < n) (g : o.guard = some (j, want)) (i : (ops[j]?).bind (·.dst) = some t) (l : t < n) (b : E t = .bool (!want)) (h : LW P n ops Q rest (pP E d undef) W) : LW P n ops Q (o :: rest) E W := fun a ha => by
 unfold wpList
 have q := ha.yield i l b
 rw [aX (by simp [Region.wanted, g, q])]
 rw [c]
 exact h _ (ha.put k _)
end
variable {dd : Bool}
abbrev lZ := Nat → Option Obj
def hp (W : World) : lZ := fun b => W.heap[b]?
def uJ (dd : Bool) (a b : Nat) : Prop := dd = true → a ≤ b
theorem uJ.of {dd : Bool} {a b : Nat} (h : a ≤ b) : uJ dd a b := fun _ => h
theorem uJ.trans {dd : Bool} {a b c : Nat} (h : uJ dd a b) (k : uJ dd b c) : uJ dd a c := fun e => dM (h e) (k e)
structure Ex (dd : Bool) (w W : World) : Prop where
 os : W.os = w.os
 tape : W.tape = w.tape
 output : W.output = w.output
 drawn : uJ dd w.drawn W.drawn
 size : w.heap.size ≤ W.heap.size
 nO : ∀ b, b < w.heap.size → W.heap[b]? = w.heap[b]?
theorem Ex.refl (w : World) : Ex dd w w := ⟨rfl, rfl, rfl, uJ.of (aT _), aT _, fun _ _ => rfl⟩
theorem Ex.trans {a b c : World} (h : Ex dd a b) (k : Ex dd b c) : Ex dd a c :=
 ⟨k.os.trans h.os, k.tape.trans h.tape, k.output.trans h.output, uJ.trans h.drawn k.drawn, dM h.size k.size, fun i d => (k.nO i (eW d h.size)).trans (h.nO i d)⟩
theorem Ex.drew (w : World) : Ex dd w w.drew := ⟨rfl, rfl, rfl, uJ.of (jV _), aT _, fun _ _ => rfl⟩
theorem Ex.alloc (w : World) (o : Obj) : Ex dd w (w.alloc o) := ⟨rfl, rfl, rfl, uJ.of (aT _), by show w.heap.size ≤ (w.heap.push o).size; simp, fun k hk => Below.heap_alloc w o k hk⟩
theorem Ex.ng {w W : World} (h : Ex true w W) : Ex dd w W := ⟨h.os, h.tape, h.output, uJ.of (h.drawn rfl), h.size, h.nO⟩
def lP (μ μ' : lZ) : Prop := ∀ b o, μ b = some o → μ' b = some o
theorem lP.refl (μ : lZ) : lP μ μ := fun _ _ h => h
theorem lP.trans {a b c : lZ} (h : lP a b) (k : lP b c) : lP a c := fun x o d => k x o (h x o d)
structure ST (dd : Bool) (F : Nat → Prop) (w W : World) (μ : lZ) (L : List (Nat × Obj)) : Prop where
 os : W.os = w.os
 tape : W.tape = w.tape
 output : W.output = w.output
 drawn : uJ dd w.drawn W.drawn
 size : w.heap.size ≤ W.heap.size
 nO : ∀ b, b < w.heap.size → ¬ F b → W.heap[b]? = w.heap[b]?
 mem : ∀ b o, μ b = some o → W.heap[b]? = some o
 box : ∀ b o, (b, o) ∈ L → W.heap[b]? = some o ∧ μ b = none ∧ (w.heap.size ≤ b ∨ F b)
 nd : (L.map (·.1)).Nodup
def mR : Nat → Prop := fun _ => False
theorem ST.start (w : World) : ST dd mR w w (hp w) [] :=
 ⟨rfl, rfl, rfl, uJ.of (aT _), aT _, fun _ _ _ => rfl, fun _ _ h => h, fun _ _ h => (by cases h), by simp⟩
section
variable {F : Nat → Prop} {w W W' : World} {μ μ' : lZ} {L L' : List (Nat × Obj)}
theorem ST.ex (h : ST dd mR w W μ L) : Ex dd w W := ⟨h.os, h.tape, h.output, h.drawn, h.size, fun b a => h.nO b a (fun x => x)⟩
theorem Pg (W : World) (o : Obj) : (W.alloc o).heap[W.heap.size]? = some o := heap_alloc_new W o
theorem pb {W : World} {b : Nat} {o : Obj} (h : W.heap[b]? = some o) : b < W.heap.size := (dI.1 h).1
theorem ST.drew (h : ST dd F w W μ L) : ST dd F w W.drew μ L :=
 ⟨h.os, h.tape, h.output, uJ.trans h.drawn (uJ.of (jV _)), h.size, h.nO, h.mem, h.box, h.nd⟩
theorem ST.Er (h : ST dd F w W μ L) {b : Nat} {o : Obj} (a : (b, o) ∈ L) : b < W.heap.size := pb (h.box b o a).1
theorem ST.alloc (h : ST dd F w W μ L) (o : Obj) : ST dd F w (W.alloc o) μ ((W.heap.size, o) :: L) := by
 refine ⟨h.os, h.tape, h.output, h.drawn, dM h.size (Ex.alloc (dd := true) W o).size, fun b a i => ?_, fun b c a => ?_, fun b c a => ?_, ?_⟩
 ·rw [(Ex.alloc (dd := true) W o).nO b (eW a h.size)]; exact h.nO b a i
 ·have := h.mem b c a
  rw [(Ex.alloc (dd := true) W o).nO b (pb this)]; exact this
 ·rcases aM.1 a with e | a
  ·cases e
   refine ⟨Pg W o, ?_, .inl h.size⟩
   cases hm : μ W.heap.size with
   | none => rfl
   | some x => have := pb (h.mem _ _ hm); omega
  ·obtain ⟨h1, d, g⟩ := h.box b c a
   exact ⟨by rw [(Ex.alloc (dd := true) W o).nO b (pb h1)]; exact h1, d, g⟩
 ·simp only [bF, dH]
  refine ⟨fun hm => ?_, h.nd⟩
  obtain ⟨⟨b, c⟩, a, e⟩ := bD.1 hm
  have := h.Er a
  simp at e
  omega
theorem ST.put {A B : List (Nat × Obj)} {b : Nat} {o n : Obj} (h : ST dd F w W μ (A ++ (b, o) :: B)) (u : W'.os = W.os ∧ W'.tape = W.tape ∧ W'.output = W.output ∧ W.drawn ≤ W'.drawn ∧ W'.heap.size = W.heap.size) (d : ∀ k, k ≠ b → W'.heap[k]? = W.heap[k]?) (v : W'.heap[b]? = some n) : ST dd F w W' μ (A ++ (b, n) :: B) := by
 obtain ⟨h1, q, r, s, t⟩ := u
 have c := h.box b o (by simp)
 have a := h.nd
 simp only [cJ, bF] at a
 have g : ∀ x o, (x, o) ∈ A → x ≠ b := fun x o j e => by
  subst e
  have := (bW.1 a).2.2 x (bD.2 ⟨_, j, rfl⟩) x (by simp)
  exact this rfl
 have i : ∀ x o, (x, o) ∈ B → x ≠ b := fun x o j e => by
  subst e
  have := (dH.1 (bW.1 a).2.1).1
  exact this (bD.2 ⟨_, j, rfl⟩)
 refine ⟨h1.trans h.os, q.trans h.tape, r.trans h.output, uJ.trans h.drawn (uJ.of s), by rw [t]; exact h.size, fun k hk l => ?_, fun k x hk => ?_, fun k x hk => ?_, by simpa using a⟩
 ·rw [d k (fun e => by subst e; rcases c.2.2 with h | h; omega; exact l h)]
  exact h.nO k hk l
 ·rw [d k (fun e => by subst e; rw [c.2.1] at hk; cases hk)]
  exact h.mem k x hk
 ·rcases aR.1 hk with hk | hk
  ·rw [d k (g k x hk)]; exact h.box k x (by simp [hk])
  ·rcases aM.1 hk with e | hk
   ·cases e; exact ⟨v, c.2⟩
   ·rw [d k (i k x hk)]; exact h.box k x (by simp [hk])
def Lo (F : Nat → Prop) (w : World) (μ μ' : lZ) : Prop := ∀ b, b < w.heap.size → ¬ F b → μ' b = μ b
theorem Lo.refl {F : Nat → Prop} {w : World} {μ : lZ} : Lo F w μ μ := fun _ _ _ => rfl
theorem Lo.trans {F : Nat → Prop} {w : World} {a b c : lZ} (h : Lo F w a b) (k : Lo F w b c) : Lo F w a c := fun x g d => (k x g d).trans (h x g d)
def grow (μ : lZ) (W W' : World) : lZ := fun b => if b < W.heap.size then μ b else W'.heap[b]?
theorem ST.DG (h : ST dd F w W μ L) {b : Nat} {o : Obj} (a : μ b = some o) : b < W.heap.size := pb (h.mem b o a)
theorem ST.call (h : ST dd F w W μ L) (c : Ex dd W W') : ST dd F w W' (grow μ W W') L := by
 refine ⟨c.os.trans h.os, c.tape.trans h.tape, c.output.trans h.output, uJ.trans h.drawn c.drawn, dM h.size c.size, fun b a j => ?_, fun b o a => ?_, fun b o a => ?_, h.nd⟩
 ·rw [c.nO b (eW a h.size)]; exact h.nO b a j
 ·unfold grow at a
  split at a
  ·rename_i d; rw [c.nO b d]; exact h.mem b o a
  ·exact a
 ·obtain ⟨h1, g, i⟩ := h.box b o a
  exact ⟨by rw [c.nO b (pb h1)]; exact h1, by unfold grow; rw [aZ (pb h1)]; exact g, i⟩
theorem ST.Oo (h : ST dd F w W μ L) (W' : World) : lP μ (grow μ W W') := fun b o a => by
 unfold grow; rw [aZ (h.DG a)]; exact a
theorem ST.ng (h : ST dd F w W μ' L) (c : lP μ μ') : ST dd F w W μ L :=
 ⟨h.os, h.tape, h.output, h.drawn, h.size, h.nO, fun b o a => h.mem b o (c b o a), fun b o a => by
  obtain ⟨h1, d, g⟩ := h.box b o a
  refine ⟨h1, ?_, g⟩
  cases hm : μ b with
  | none => rfl
  | some x => (have := c b x hm; rw [d] at this; cases this), h.nd⟩
theorem ST.Fm (h : ST dd F w W μ L) (a : Ex dd W W') : ST dd F w W' μ L := (h.call a).ng (h.Oo W')
theorem ST.lx (h : ST dd F w W μ L) : lP μ (hp W) := h.mem
def Lv (μ : lZ) (b : Nat) (o : Obj) : lZ := fun k => if k = b then some o else μ k
theorem ST.Fu {A B : List (Nat × Obj)} {b : Nat} {o : Obj} (h : ST dd F w W μ (A ++ (b, o) :: B)) : ST dd F w W (Lv μ b o) (A ++ B) := by
 have d := h.box b o (by simp)
 have a := h.nd
 simp only [cJ, bF] at a
 have i : ∀ x y, (x, y) ∈ A ++ B → x ≠ b := fun x y c e => by
  subst e
  rcases aR.1 c with c | c
  ·exact (bW.1 a).2.2 x (bD.2 ⟨_, c, rfl⟩) x (by simp) rfl
  ·exact (dH.1 (bW.1 a).2.1).1 (bD.2 ⟨_, c, rfl⟩)
 refine ⟨h.os, h.tape, h.output, h.drawn, h.size, h.nO, fun k x hk => ?_, fun k x hk => ?_, ?_⟩
 ·unfold Lv at hk
  split at hk
  ·rename_i e; cases hk; rw [e]; exact d.1
  ·exact h.mem k x hk
 ·have g : (k, x) ∈ A ++ (b, o) :: B := by
   rcases aR.1 hk with h | h <;> simp [h]
  obtain ⟨h1, j, l⟩ := h.box k x g
  exact ⟨h1, by unfold Lv; rw [aX (i k x hk)]; exact j, l⟩
 ·have : (A ++ B).Sublist (A ++ (b, o) :: B) := List.Sublist.append (List.Sublist.refl A) (List.sublist_cons_self _ _)
  exact List.Nodup.sublist (this.map _) h.nd
theorem ST.Fh {A B : List (Nat × Obj)} {b : Nat} {o : Obj} (h : ST dd F w W μ (A ++ (b, o) :: B)) : lP μ (Lv μ b o) := fun k x hk => by
 unfold Lv
 split
 ·rename_i e; subst e; rw [(h.box k o (by simp)).2.1] at hk; cases hk
 ·exact hk
theorem ST.Ki {A B : List (Nat × Obj)} {b : Nat} {o : Obj} (h : ST dd F w W μ (A ++ (b, o) :: B)) : Lo F w μ (Lv μ b o) := fun k hk c => by
 refine aX (fun e => ?_)
 subst e
 rcases (h.box k o (by simp)).2.2 with a | a
 ·omega
 ·exact c a
theorem ST.drop {A B : List (Nat × Obj)} {p : Nat × Obj} (h : ST dd F w W μ (A ++ p :: B)) : ST dd F w W μ (A ++ B) :=
 (h.Fu (b := p.1) (o := p.2)).ng h.Fh
end
abbrev qp (α : Type) := lZ → List Value → α → Prop
def Sl {α : Type} (R : qp α) (k : Nat) (μ : lZ) (v : Value) (l : List α) : Prop :=
 ∃ A c, v = .slice A l.length c ∧ l.length ≤ c ∧ c ≤ maxLen ∧ (0 < l.length → ∃ b off cs T fr, A = some ⟨b, off, none⟩ ∧ μ b = some (.cells cs T fr) ∧
  ∀ i x, l[i]? = some x → ∃ ys, ys.length = k ∧ R μ ys x ∧ ∀ j y, ys[j]? = some y → cs[off + i * k + j]? = some y)
def At (μ : lZ) (v : Value) (ys : List Value) : Prop :=
 ∃ b off cs T fr, v = .pointer (some ⟨b, off, none⟩) ∧ μ b = some (.cells cs T fr) ∧ ∀ j y, ys[j]? = some y → cs[off + j]? = some y
def Fr (B : Nat) (v : Value) : Prop := ∀ b, v.ownBlock = some b → B ≤ b
def G2 {α : Type} (R : qp α) : Prop := ∀ μ μ' ys x, lP μ μ' → R μ ys x → R μ' ys x
def Pl {α : Type} (enc : α → List Value) : qp α := fun _ ys x => ys = enc x
theorem Pl.mono {α : Type} (enc : α → List Value) : G2 (Pl enc) := fun _ _ _ _ _ h => h
theorem Sl.mono {α : Type} {R : qp α} (u : G2 R) {k : Nat} {μ μ' : lZ} {v : Value} {l : List α} (h : Sl R k μ v l) (d : lP μ μ') : Sl R k μ' v l := by
 obtain ⟨A, c, h1, g, j, n⟩ := h
 refine ⟨A, c, h1, g, j, fun w => ?_⟩
 obtain ⟨b, off, cs, T, fr, o, q, r⟩ := n w
 exact ⟨b, off, cs, T, fr, o, d _ _ q, fun i x y => let ⟨ys, s, t, a⟩ := r i x y; ⟨ys, s, u _ _ _ _ d t, a⟩⟩
theorem At.mono {μ μ' : lZ} {v : Value} {ys : List Value} (h : At μ v ys) (d : lP μ μ') : At μ' v ys := by
 obtain ⟨b, off, cs, T, fr, h1, a, c⟩ := h
 exact ⟨b, off, cs, T, fr, h1, d _ _ a, c⟩
theorem Sl.len {α : Type} {R : qp α} {k : Nat} {μ : lZ} {v : Value} {l : List α} (h : Sl R k μ v l) : l.length ≤ 9223372036854775807 := by
 obtain ⟨A, c, h1, b, a, d⟩ := h
 unfold maxLen at a
 omega
theorem Sl.nil {α : Type} (R : qp α) (k : Nat) (μ : lZ) : Sl R k μ (.slice none 0 0) [] := ⟨none, 0, rfl, aT _, by decide, fun h => absurd h (by simp)⟩
theorem Fr.mono {B B' : Nat} {v : Value} (h : Fr B v) (a : B' ≤ B) : Fr B' v := fun b c => dM a (h b c)
theorem Fr.nil (B : Nat) : Fr B (.slice none 0 0) := fun b a => by simp [Value.ownBlock] at a
end Go.Proofs.YtklbhegeiijbjaaGreat
namespace Go.Proofs.YtklbhegeiijbjaaGreat
open Go.RowKit
variable {dd : Bool}
section
variable {P : Program} {n : Nat} {Q : sm} {E : Nat → Value} {W : World} {ops : Array Oper} {rest : List Oper}
 {d : Option Nat} {ty : TypeId} {pos : String} {af : Array Edge} {g : Option (Nat × Bool)}
 {F : Nat → Prop} {w : World} {μ : lZ} {L : List (Nat × Obj)}
def nx (P : Program) (E : Nat → Value) (o : Oper) (W : World) (v : Value) (W' : World) : Prop := (execOp (lC E) o).run P W = .ok (.value v) W'
theorem HZ {o : Oper} {dd : Nat} {v : Value} (hw : lT n ops E o) (a : o.dst = some dd) (b : dd < n) (c : nx P E o W v W) (h : LW P n ops Q rest (pP E dd v) W) : LW P n ops Q (o :: rest) E W := NP hw a b c h
theorem lz {x : Operand} {v : Value} (a : lC E x = v) : nx P E ⟨d, .move x, ty, pos, af, g⟩ W v W := by rw [← a]; rfl
theorem ny {x : Operand} {v : Value} (a : lC E x = v) : nx P E ⟨d, .assign x, ty, pos, af, g⟩ W v W := by rw [← a]; rfl
theorem lX {c x y : Operand} {v : Value} (a : lC E c = .bool true) (b : lC E x = v) : nx P E ⟨d, .pick c x y, ty, pos, af, g⟩ W v W := by
 show (do pure (.value (if ← asBool (lC E c) then lC E x else lC E y)) : Sem Next).run P W = _
 rw [a, ← b]; simp [asBool]
theorem lW {c x y : Operand} {v : Value} (a : lC E c = .bool false) (b : lC E y = v) : nx P E ⟨d, .pick c x y, ty, pos, af, g⟩ W v W := by
 show (do pure (.value (if ← asBool (lC E c) then lC E x else lC E y)) : Sem Next).run P W = _
 rw [a, ← b]; simp [asBool]
theorem og {x : Operand} {i : Nat} {vs : Array Value} {v : Value} (b : lC E x = .tuple vs) (a : vs[i]? = some v) : nx P E ⟨d, .extract x i, ty, pos, af, g⟩ W v W := by
 show (do pure (.value (← Instr.extract (lC E x) i)) : Sem Next).run P W = _
 rw [b]; simp [Instr.extract, a]
theorem ot {u : TypeId} {x : Operand} {b : Bool} (a : lC E x = .bool b) : nx P E ⟨d, .unOp .not u x, ty, pos, af, g⟩ W (.bool !b) W := by
 show (do pure (.value (← Op.unary .not (lC E x))) : Sem Next).run P W = _
 rw [a]; simp [Op.unary]
theorem Mf {fn : Fn} {first caps : Array Operand} {v : Value} (a : .func fn (first.map (lC E)) (caps.map (lC E)) = v) : nx P E ⟨d, .makeFunc fn first caps, ty, pos, af, g⟩ W v W := by
 show (do pure (.value (← Instr.makeFunc fn (first.map (lC E)) (caps.map (lC E)))) : Sem Next).run P W = _
 rw [← a]; simp [Instr.makeFunc]
def I6 (k : IntKind) (op : BinOp) (a b : Int) : Option Value :=
 match op with
 | .eql => some (.bool (a == b))
 | .neq => some (.bool (a != b))
 | .lss => some (.bool (decide (a < b)))
 | .leq => some (.bool (decide (a ≤ b)))
 | .gtr => some (.bool (decide (a > b)))
 | .geq => some (.bool (decide (a ≥ b)))
 | .add => some (.int k (k.wrap (a + b)))
 | .sub => some (.int k (k.wrap (a - b)))
 | .mul => some (.int k (k.wrap (a * b)))
 | _ => none
theorem mz {op : BinOp} {c l : TypeId} {x y : Operand} {k : IntKind} {a b : Int} {v : Value} (i : lC E x = .int k a) (j : lC E y = .int k b) (h : I6 k op a b = some v) :
  nx P E ⟨d, .binOp op c x y l, ty, pos, af, g⟩ W v W := by
 show (do let r ← (do eqGuard op c x y (lC E x) (lC E y); binOp op c (lC E x) (lC E y)); pure (.value r) : Sem Next).run P W = _
 rw [i, j]
 cases op <;> simp [I6] at h <;> subst h <;> simp [eqGuard, binOp, Op.intCmp, Op.intArith]
def PP (op : BinOp) (a b : ByteArray) : Option Value :=
 match op with
 | .eql => some (.bool (a.toList == b.toList))
 | .neq => some (.bool !(a.toList == b.toList))
 | .lss => some (.bool (Op.bytesLess a.toList b.toList))
 | .leq => some (.bool (Op.bytesLess a.toList b.toList || a.toList == b.toList))
 | .gtr => some (.bool !(Op.bytesLess a.toList b.toList || a.toList == b.toList))
 | .geq => some (.bool !(Op.bytesLess a.toList b.toList))
 | _ => none
def yV (a b : ByteArray) : Option ByteArray := if ((a.size + b.size : Nat) : Int) > IntKind.i64.max then none else some (a ++ b)
theorem MT {op : BinOp} {c k : TypeId} {x y : Operand} {a b : ByteArray} {v : Value} (i : lC E x = .string a) (j : lC E y = .string b) (h : PP op a b = some v) :
  nx P E ⟨d, .binOp op c x y k, ty, pos, af, g⟩ W v W := by
 show (do let r ← (do eqGuard op c x y (lC E x) (lC E y); binOp op c (lC E x) (lC E y)); pure (.value r) : Sem Next).run P W = _
 rw [i, j]
 cases op <;> simp [PP] at h <;> subst h <;> simp [eqGuard, binOp, Op.stringOp]
theorem AD {c l : TypeId} {x y : Operand} {a b : Array Value} {r : Bool} (j : lC E x = .agg a) (k : lC E y = .agg b) (h : ∀ W, (eqGuard .eql c x y (.agg a) (.agg b)).run P W = .ok () W) (i : ∀ W, (binOp .eql c (.agg a) (.agg b)).run P W = .ok (.bool r) W) : nx P E ⟨d, .binOp .eql c x y l, ty, pos, af, g⟩ W (.bool r) W := by
 show (do let r ← (do eqGuard .eql c x y (lC E x) (lC E y); binOp .eql c (lC E x) (lC E y)); pure (.value r) : Sem Next).run P W = _
 rw [j, k]; simp [h W, i W]
theorem Jc {c l : TypeId} {x y : Operand} {a b : Array Value} {r : Bool} (j : lC E x = .agg a) (k : lC E y = .agg b) (h : ∀ W, (eqGuard .neq c x y (.agg a) (.agg b)).run P W = .ok () W) (i : ∀ W, (binOp .neq c (.agg a) (.agg b)).run P W = .ok (.bool r) W) : nx P E ⟨d, .binOp .neq c x y l, ty, pos, af, g⟩ W (.bool r) W := by
 show (do let r ← (do eqGuard .neq c x y (lC E x) (lC E y); binOp .neq c (lC E x) (lC E y)); pure (.value r) : Sem Next).run P W = _
 rw [j, k]; simp [h W, i W]
theorem Ch {t e : TypeId} (dd : Nat) (b : P.underlying t = some (.pointer e)) (a : Option Addr) (W : World) : (Op.equalIn (dd + 1) t (.pointer a) (.pointer none)).run P W = .ok a.isNone W := by
 cases a <;> simp [Op.equalIn, aU b]
theorem tE {b k e : TypeId} {x y : Operand} {a : Option Addr} (h : P.underlying b = some (.pointer e)) (i : lC E x = .pointer a) (j : lC E y = .pointer none) :
  nx P E ⟨d, .binOp .eql b x y k, ty, pos, af, g⟩ W (.bool a.isNone) W := by
 show (do let r ← (do eqGuard .eql b x y (lC E x) (lC E y); binOp .eql b (lC E x) (lC E y)); pure (.value r) : Sem Next).run P W = _
 rw [i, j]
 have c := Ch 9999 h a W
 simp [eqGuard, binOp, Op.equal, show Op.maxDepth = 9999 + 1 from rfl, c]
theorem DX {b k e : TypeId} {x y : Operand} {a : Option Addr} (h : P.underlying b = some (.pointer e)) (i : lC E x = .pointer a) (j : lC E y = .pointer none) :
  nx P E ⟨d, .binOp .neq b x y k, ty, pos, af, g⟩ W (.bool !a.isNone) W := by
 show (do let r ← (do eqGuard .neq b x y (lC E x) (lC E y); binOp .neq b (lC E x) (lC E y)); pure (.value r) : Sem Next).run P W = _
 rw [i, j]
 have c := Ch 9999 h a W
 simp [eqGuard, binOp, Op.equal, show Op.maxDepth = 9999 + 1 from rfl, c]
theorem pK {x : Operand} {t : TypeId} {s : ByteArray} (a : P.underlying t = some .string) (b : lC E x = .string s) : nx P E ⟨d, .call ⟨.builtin .len, #[x], #[t]⟩, ty, pos, af, g⟩ W (.int .i64 s.size) W := by
 show (do let d ← resolve (lC E) ⟨.builtin .len, #[x], #[t]⟩ ty; invoke d.target d.args : Sem Next).run P W = _
 simp [resolve, invoke, builtin, Builtin.len_, aU a, b, goInt]
theorem As {x : Operand} {t e : TypeId} {A : Option Addr} {l c : Nat} (a : P.underlying t = some (.slice e)) (b : lC E x = .slice A l c) : nx P E ⟨d, .call ⟨.builtin .len, #[x], #[t]⟩, ty, pos, af, g⟩ W (.int .i64 l) W := by
 show (do let d ← resolve (lC E) ⟨.builtin .len, #[x], #[t]⟩ ty; invoke d.target d.args : Sem Next).run P W = _
 simp [resolve, invoke, builtin, Builtin.len_, aU a, b, goInt]
theorem mS {α : Type} {R : qp α} {k : Nat} {m : lZ} {x : Operand} {t e : TypeId} {v : Value} {l : List α} (b : P.underlying t = some (.slice e)) (h : lC E x = v) (a : Sl R k m v l) : nx P E ⟨d, .call ⟨.builtin .len, #[x], #[t]⟩, ty, pos, af, g⟩ W (.int .i64 l.length) W := by
 obtain ⟨A, c, rfl, _⟩ := a
 exact As b h
theorem MX {t : TypeId} {x a : Operand} {n : IntKind} {s : ByteArray} {i : Int} {c : UInt8} (k : P.underlying t = some .string) (l : lC E x = .string s) (h : lC E a = .int n i) (b : 0 ≤ i) (j : s[i.toNat]? = some c) :
  nx P E ⟨d, .index t x a, ty, pos, af, g⟩ W (.int .u8 c.toNat) W := by
 show (do pure (.value (← Instr.index t (lC E x) (lC E a))) : Sem Next).run P W = _
 rw [l, h]
 simp [Instr.index, asIntOf, aU k, b, j]
def ni (P : Program) (t : TypeId) (f off : Nat) : Prop := ∀ b o w, (Instr.fieldAt t (.pointer (some ⟨b, o, none⟩)) f).run P w = .ok (.pointer (some ⟨b, o + off, none⟩)) w
theorem lA {t : TypeId} {x : Operand} {f off b o : Nat} (a : ni P t f off) (c : lC E x = .pointer (some ⟨b, o, none⟩)) : nx P E ⟨d, .fieldAddr t x f, ty, pos, af, g⟩ W (.pointer (some ⟨b, o + off, none⟩)) W := by
 show (do pure (.value (← Instr.fieldAt t (lC E x) f)) : Sem Next).run P W = _
 rw [c]; simp [a b o W]
theorem wq {t : TypeId} {x : Operand} {f off : Nat} {v : Value} {ys : List Value} (zs : List Value) (i : ni P t f off) (n : lC E x = v) (l : At μ v ys) (q : (ys.drop off).take zs.length = zs) :
  ∃ c, At μ c zs ∧ ∀ W, nx P E ⟨d, .fieldAddr t x f, ty, pos, af, g⟩ W c W := by
 obtain ⟨b, o, cs, T, fr, rfl, h1, h⟩ := l
 refine ⟨_, ⟨b, o + off, cs, T, fr, rfl, h1, fun j y a => ?_⟩, fun W => lA i n⟩
 have k : j < zs.length := (bG.1 a).1
 have := h (off + j) y (by
  rw [← q, eJ k, dY] at a
  exact a)
 rw [fJ]
 exact this
theorem nA {x : Operand} {a : Addr} (b : lC E x = .pointer (some a)) : nx P E ⟨d, .nilCheck x, ty, pos, af, g⟩ W (.pointer (some a)) W := by
 unfold nx execOp
 simp [b]
theorem H3 {α : Type} {R : qp α} {k : Nat} {t e : TypeId} {x h : Operand} {O : IntKind} {v : Value} {i : Int} {l : List α} {x0 : α} (J : P.underlying t = some (.slice e)) (he : ∀ w, (sizeOf e).run P w = .ok k w) (L : lC E x = v) (F : lC E h = .int O i) (I : Sl R k μ v l) (o : 0 ≤ i) (n : l[i.toNat]? = some x0) :
  ∃ p ys, ys.length = k ∧ R μ ys x0 ∧ At μ p ys ∧ ∀ W, nx P E ⟨d, .indexAddr t x h, ty, pos, af, g⟩ W p W := by
 obtain ⟨A, c, rfl, Q, U, q⟩ := I
 have G : i.toNat < l.length := (bG.1 n).1
 obtain ⟨b, off, cs, T, fr, rfl, r, s⟩ := q (by omega)
 obtain ⟨ys, u, z, a⟩ := s i.toNat x0 n
 refine ⟨.pointer (some ⟨b, off + i.toNat * k, none⟩), ys, u, z, ⟨b, off + i.toNat * k, cs, T, fr, rfl, r, fun j y M => a j y M⟩, fun W => ?_⟩
 show (do pure (.value (← Instr.indexAt t (lC E x) (lC E h))) : Sem Next).run P W = _
 rw [L, F]
 have D : 0 ≤ i ∧ i < (l.length : Int) := ⟨o, by omega⟩
 simp [Instr.indexAt, asIntOf, aU J, he W, D, dT]
theorem qb {α : Type} {enc : α → List Value} {k : Nat} {t e : TypeId} {x a : Operand} {u : IntKind} {v : Value} {i : Int} {l : List α} {x0 : α} (r : P.underlying t = some (.slice e)) (he : ∀ w, (sizeOf e).run P w = .ok k w) (s : lC E x = v) (n : lC E a = .int u i) (q : Sl (Pl enc) k μ v l) (b : 0 ≤ i) (o : l[i.toNat]? = some x0) :
  ∃ p, At μ p (enc x0) ∧ ∀ W, nx P E ⟨d, .indexAddr t x a, ty, pos, af, g⟩ W p W := by
 obtain ⟨p, ys, h1, c, h, j⟩ := H3 (d := d) (ty := ty) (pos := pos) (af := af) (g := g) r he s n q b o
 cases c
 exact ⟨p, h, j⟩
theorem IS (P : Program) {W : World} {b off : Nat} {cs : Array Value} {T : TypeId} {fr : Nat × Nat} (a : W.heap[b]? = some (.cells cs T fr)) (ys : List Value) (d : ∀ j y, ys[j]? = some y → cs[off + j]? = some y) :
  (loadCells ⟨b, off, none⟩ ys.length).run P W = .ok ys.toArray W :=
 jz W ⟨b, off, none⟩ ys (fun j v c => by rw [dT, iK W b (off + j) cs T fr a]; exact d j v c)
theorem CN {W : World} {t : TypeId} {b off : Nat} {cs : Array Value} {T : TypeId} {fr : Nat × Nat} (a : ∀ w, (isAgg t).run P w = .ok true w) (ys : List Value) (c : ∀ w, (sizeOf t).run P w = .ok ys.length w) (d : W.heap[b]? = some (.cells cs T fr)) (g : ∀ j y, ys[j]? = some y → cs[off + j]? = some y) : (Instr.loadAt t (.pointer (some ⟨b, off, none⟩))).run P W = .ok (.agg ys.toArray) W := by
 simp [Instr.loadAt, Instr.sureAddr, loadVar, a W, c W, IS P d ys g]
theorem CK {W : World} {t : TypeId} {b off : Nat} {cs : Array Value} {T : TypeId} {fr : Nat × Nat} (a : ∀ w, (isAgg t).run P w = .ok false w) {y : Value} (c : W.heap[b]? = some (.cells cs T fr)) (g : cs[off]? = some y) : (Instr.loadAt t (.pointer (some ⟨b, off, none⟩))).run P W = .ok y W := by
 have d : W.cell? ⟨b, off, none⟩ = some y := by rw [iK W b off cs T fr c]; exact g
 simp [Instr.loadAt, Instr.sureAddr, loadVar, a W, load, Sem.run, d]
theorem lq {t : TypeId} {x : Operand} {a v : Value} (c : lC E x = a) (b : (Instr.loadAt t a).run P W = .ok v W) : nx P E ⟨d, .load t x, ty, pos, af, g⟩ W v W := by
 show (do pure (.value (← Instr.loadAt t (lC E x))) : Sem Next).run P W = _
 rw [c]; simp [b]
def pj (μ : lZ) (A : List (Nat × Obj)) (W : World) : Prop := (∀ b o, μ b = some o → W.heap[b]? = some o) ∧ ∀ b o, (b, o) ∈ A → W.heap[b]? = some o
theorem ST.has (h : ST dd F w W μ L) : pj μ L W := ⟨h.mem, fun b o a => (h.box b o a).1⟩
theorem pj.sub {μ' : lZ} {A A' : List (Nat × Obj)} (h : pj μ A W) (d : lP μ' μ) (c : ∀ p, p ∈ A' → p ∈ A) : pj μ' A' W := ⟨fun b o a => h.1 b o (d b o a), fun b o a => h.2 b o (c _ a)⟩
theorem ma {A : List (Nat × Obj)} (hH : pj μ A W) {t : TypeId} {p : Value} {ys : List Value} (hp : At μ p ys) (c : ∀ w, (isAgg t).run P w = .ok true w) (d : ∀ w, (sizeOf t).run P w = .ok ys.length w) :
  (Instr.loadAt t p).run P W = .ok (.agg ys.toArray) W := by
 obtain ⟨b, off, cs, T, fr, rfl, h1, a⟩ := hp
 exact CN c ys d (hH.1 _ _ h1) a
theorem qR {A : List (Nat × Obj)} (hH : pj μ A W) {t : TypeId} {p y : Value} (hp : At μ p [y]) (c : ∀ w, (isAgg t).run P w = .ok false w) :
  (Instr.loadAt t p).run P W = .ok y W := by
 obtain ⟨b, off, cs, T, fr, rfl, h1, a⟩ := hp
 exact CK c (hH.1 _ _ h1) (a 0 y rfl)
theorem lB {A : List (Nat × Obj)} (hH : pj μ A W) {t : TypeId} {b off : Nat} {cs : Array Value} {T : TypeId} {fr : Nat × Nat} (g : (b, Obj.cells cs T fr) ∈ A) (ys : List Value) (i : (cs.toList.drop off).take ys.length = ys) (d : ∀ w, (isAgg t).run P w = .ok true w) (h : ∀ w, (sizeOf t).run P w = .ok ys.length w) : (Instr.loadAt t (.pointer (some ⟨b, off, none⟩))).run P W = .ok (.agg ys.toArray) W :=
 CN d ys h (hH.2 _ _ g) (fun j y a => by
  have c : j < ys.length := (bG.1 a).1
  rw [← i, eJ c, dY] at a
  simpa using a)
theorem lK {A : List (Nat × Obj)} (hH : pj μ A W) {t : TypeId} {b off : Nat} {cs : Array Value} {T : TypeId} {fr : Nat × Nat} (c : (b, Obj.cells cs T fr) ∈ A) {y : Value} (d : cs[off]? = some y) (a : ∀ w, (isAgg t).run P w = .ok false w) : (Instr.loadAt t (.pointer (some ⟨b, off, none⟩))).run P W = .ok y W :=
 CK a (hH.2 _ _ c) d
theorem nT {t : TypeId} {a : Array (Nat × Operand)} {qs : Array (Nat × Value)} {v : Value} (b : a.map (fun (i, x) => (i, lC E x)) = qs) (c : ∀ W, (Instr.build t qs).run P W = .ok v W) : nx P E ⟨d, .build t a, ty, pos, af, g⟩ W v W := by
 show (do pure (.value (← Instr.build t (a.map fun (i, x) => (i, lC E x)))) : Sem Next).run P W = _
 rw [b]; simp [c W]
theorem nq {t : TypeId} {z cs : Array Value} {a : Array Field} {qs : Array (Nat × Value)} {pl : Array (Nat × Nat)} (d : ∀ w, (zeroValue t).run P w = .ok (.agg z) w) (c : P.underlying t = some (.struct a)) (hp : ∀ w, (a.mapM fun f => do pure (f.offset, ← sizeOf f.type) : Sem (Array (Nat × Nat))).run P w = .ok pl w) (b : Instr.fill (pl[·]?) z qs.toList = some cs) (W : World) : (Instr.build t qs).run P W = .ok (.agg cs) W := by
 simp only [Instr.build, cC, d W, bM, aU c, Value.cells]
 rw [hp W]
 simp only [bM, b, cV]
end
theorem E4 {α : Type} : ∀ (a : Ask α) (w : World), w.drawn ≤ (w.ask a).2.drawn
 | .done a, w => by simp [World.ask]
 | .ask b range k, w => by
  unfold World.ask
  dsimp only
  split
  ·exact E4 (k 0) w
  ·refine dM (jV w.drawn) ?_
   exact E4 _ { w with drawn := w.drawn + 1 }
theorem NJ (w : World) (c : Sys) : w.drawn ≤ (w.sys c).2.drawn := by
 have h := E4 (Kernel.perform c w.os) w
 unfold World.sys
 generalize w.ask (Kernel.perform c w.os) = r at *
 obtain ⟨⟨a, b⟩, d⟩ := r
 cases a <;> simp at h ⊢ <;> exact h
theorem G9 {p : Program} {w c : World} {a : Addr} {u : TypeId} {k : Addr} {v : Value} {b : Bool} {l : List Addr} (h : w.viewStore p a u k v b = .ok (c, l)) : c.drawn = w.drawn := by
 unfold World.viewStore at h
 simp only [bind, Except.bind, pure, Except.pure] at h
 split at h
 ·cases h
 ·split at h
  ·cases h
  ·split at h
   ·split at h
    ·cases h
    ·split at h
     ·cases h
     ·cases h; rfl
   ·cases h
theorem H7 {p : Program} {w c : World} {a : Addr} {v : Value} {b : Bool} {l : List Addr} (h : w.farStore p a v b = .ok (c, l)) : c.drawn = w.drawn := by
 unfold World.farStore at h
 split at h
 ·split at h
  ·rename_i h1; cases h; exact G9 h1
  ·cases h
 ·cases h
theorem pF {α : Type} {p : Program} : ∀ (s : Sem α) (w d : World) (a : α), s.run p w = .ok a d → w.drawn ≤ d.drawn
 | .pure a, w, d, b, h => by simp only [Sem.run] at h; cases h; exact aT _
 | .load m a k, w, d, b, h => by
  simp only [Sem.run] at h
  split at h
  ·exact pF _ _ _ _ h
  ·split at h
   ·exact pF _ _ _ _ h
   ·cases h
 | .store m a v k, w, d, b, h => by
  have key : ∀ (r : Result α) i, r = .ok b d → (r = (match w.cell? a with
    | some _ => if w.frozen? a then .halt i w else k.run p (w.setCell a v)
    | none => match w.farStore p a v (m == .atomic) with
     | .ok (w, _) => k.run p w
     | .error h => .halt h w)) → w.drawn ≤ d.drawn := by
   intro r i j h
   rw [j] at h
   split at h
   ·split at h
    ·cases h
    ·have := pF k _ _ _ h.symm
     simpa [World.setCell] using this
   ·split at h
    ·rename_i h1
     have g := pF k _ _ _ h.symm
     rw [H7 h1] at g
     exact g
    ·cases h
  cases v with
  | agg cs => simp only [Sem.run] at h; cases h
  | tuple cs => simp only [Sem.run] at h; cases h
  | _ => exact key _ _ h (by simp only [Sem.run]; rfl)
 | .new o k, w, d, b, h => by simp only [Sem.run] at h; have := pF (k _) _ _ _ h; exact this
 | .shape r k, w, d, b, h => by simp only [Sem.run] at h; exact pF _ _ _ _ h
 | .freeze a n k, w, d, b, h => by
  simp only [Sem.run] at h
  have := pF k _ _ _ h
  unfold World.freeze at this
  split at this <;> exact this
 | .frozen a k, w, d, b, h => by simp only [Sem.run] at h; exact pF _ _ _ _ h
 | .getObj r k, w, d, b, h => by
  simp only [Sem.run] at h
  split at h <;> try (cases h; done)
  exact pF _ _ _ _ h
 | .setObj r o k, w, d, b, h => by
  simp only [Sem.run] at h
  split at h <;> try (cases h; done)
  have := pF k _ _ _ h
  exact this
 | .choose q k, w, d, b, h => by
  simp only [Sem.run] at h
  split at h
  ·exact pF _ _ _ _ h
  ·exact dM (jV _) (pF _ _ _ _ h)
 | .sys c k, w, d, b, h => by
  simp only [Sem.run] at h
  exact dM (NJ w c) (pF _ _ _ _ h)
 | .program k, w, d, b, h => by simp only [Sem.run] at h; exact pF _ _ _ _ h
 | .mark m k, w, d, b, h => by simp only [Sem.run] at h; exact pF k _ _ _ h
 | .halt x, w, d, b, h => by simp only [Sem.run] at h; cases h
end Go.Proofs.YtklbhegeiijbjaaGreat
namespace Go.Proofs.YtklbhegeiijbjaaGreat
open Go.RowKit
variable {dd : Bool}
section
variable {P : Program} {n : Nat} {Q : sm} {E : Nat → Value} {W : World} {ops : Array Oper} {rest : List Oper}
 {d : Option Nat} {ty : TypeId} {pos : String} {af : Array Edge} {g : Option (Nat × Bool)}
 {F : Nat → Prop} {w : World} {μ : lZ} {L : List (Nat × Obj)}
def oB (P : Program) (E : Nat → Value) (o : Oper) (W : World) (K : Value → World → Prop) : Prop :=
 (∃ v W', (execOp (lC E) o).run P W = .ok (.value v) W' ∧ K v W') ∨ (∃ W', (execOp (lC E) o).run P W = .ok .skip W' ∧ K undef W') ∨
 (∃ f args, (execOp (lC E) o).run P W = .ok (.enter f args) W ∧ Calls P f args W fun e a => ∃ v, e = .returned v ∧ K v a)
theorem oB.mono {o : Oper} {K K' : Value → World → Prop} (h : oB P E o W K) (hk : ∀ v W', K v W' → K' v W') : oB P E o W K' := by
 rcases h with ⟨v, W', h1, a⟩ | ⟨W', h1, a⟩ | ⟨f, args, h1, a⟩
 ·exact .inl ⟨v, W', h1, hk _ _ a⟩
 ·exact .inr (.inl ⟨W', h1, hk _ _ a⟩)
 ·exact .inr (.inr ⟨f, args, h1, dJ a (fun _ _ ⟨v, b, c⟩ => ⟨v, b, hk _ _ c⟩)⟩)
theorem Rj {o : Oper} {dd : Nat} (hw : lT n ops E o) (c : o.dst = some dd) (d : dd < n) (h : oB P E o W fun v W' => LW P n ops Q rest (pP E dd v) W') : LW P n ops Q (o :: rest) E W := by
 rcases h with ⟨v, W', h1, b⟩ | ⟨W', h1, b⟩ | ⟨f, args, h1, b⟩
 ·exact NP hw c d h1 b
 ·intro a ha
  unfold wpList
  rw [aZ (hw.of ha)]
  refine .inl ?_
  unfold Oper.wp
  rw [ha.eval, h1, iO, c]
  exact b _ (ha.put d _)
 ·exact OY hw c d h1 b
theorem SU {o : Oper} (hw : lT n ops E o) (c : o.dst = none) (h : oB P E o W fun _ W' => LW P n ops Q rest E W') : LW P n ops Q (o :: rest) E W := by
 rcases h with ⟨v, W', h1, b⟩ | ⟨W', h1, b⟩ | ⟨f, args, h1, b⟩
 ·intro a ha
  unfold wpList
  rw [aZ (hw.of ha)]
  refine .inl ?_
  unfold Oper.wp
  rw [ha.eval, h1, iG, c]
  exact b _ (ha.An _)
 ·exact OD hw c h1 b
 ·intro a ha
  unfold wpList
  rw [aZ (hw.of ha)]
  refine .inl ?_
  unfold Oper.wp
  rw [ha.eval, h1, iH]
  refine dJ b ?_
  rintro e g ⟨v, rfl, d⟩
  simp only [c]
  exact d _ (ha.An _)
theorem mG {K : Value → World → Prop} {t : TypeId} {x : Operand} {v : Value} (a : ST dd F w W μ L) (c : lC E x = v) (h : ∀ W' b, ST dd F w W' μ ((b, .cells v.cells t (0, 0)) :: L) → K (.pointer (some ⟨b, 0, none⟩)) W') : oB P E ⟨d, .box t x, ty, pos, af, g⟩ W K :=
 .inl ⟨.pointer (some ⟨W.heap.size, 0, none⟩), W.alloc (.cells v.cells t (0, 0)), by
   show (do pure (.value (← Instr.box t (lC E x))) : Sem Next).run P W = _
   rw [c]
   simp [Instr.box, newVar, newRow, newObj, Sem.run], h _ _ (a.alloc _)⟩
theorem ml {K : Value → World → Prop} {t : TypeId} {z : Value} (a : ST dd F w W μ L) (c : ∀ w, (zeroValue t).run P w = .ok z w) (h : ∀ W' b, ST dd F w W' μ ((b, .cells z.cells t (0, 0)) :: L) → K (.pointer (some ⟨b, 0, none⟩)) W') : oB P E ⟨d, .alloc t, ty, pos, af, g⟩ W K :=
 .inl ⟨.pointer (some ⟨W.heap.size, 0, none⟩), W.alloc (.cells z.cells t (0, 0)), by
   show (do pure (.value (← Instr.alloc t true (.tuple #[]))) : Sem Next).run P W = _
   simp [Instr.alloc, c W, newVar, newRow, newObj, Sem.run], h _ _ (a.alloc _)⟩
theorem HL {t e : TypeId} {m k : Nat} {z : Value} {qs : Array (Nat × Value)} {cs : Array Value} (d : P.underlying t = some (.slice e)) (c : ∀ w, (sizeOf e).run P w = .ok k w) (g : ∀ w, (zeroValue e).run P w = .ok z w) (hm : m * k ≤ 16777216) (a : Instr.fill (fun i => some (i * k, k)) ((Array.range (m * k)).map (fun i => (if m * k = 0 then (#[] : Array Value) else z.cells)[i % (if m * k = 0 then (#[] : Array Value) else z.cells).size]!)) qs.toList = some cs) (W : World) :
  (Instr.buildSlice t m qs).run P W = .ok (.slice (some ⟨W.heap.size, 0, none⟩) m m) (W.alloc (.cells cs e (0, 0))) := by
 simp only [Instr.buildSlice, cC, aU d, bM, c W]
 rw [aX (by omega)]
 by_cases b : m * k = 0
 ·simp only [b, aS] at a ⊢
  simp only [cC, cV, bM, a]
  simp [newRow, newObj, Sem.run]
 ·simp only [b, aK] at a ⊢
  simp only [cC, g W, cV, bM, a]
  simp [newRow, newObj, Sem.run]
theorem mh {K : Value → World → Prop} {t e : TypeId} {m : Nat} {c : Array (Nat × Operand)} {qs : Array (Nat × Value)} {cs : Array Value} (a : ST dd F w W μ L) (j : c.map (fun (i, x) => (i, lC E x)) = qs) (k : ∀ W, (Instr.buildSlice t m qs).run P W = .ok (.slice (some ⟨W.heap.size, 0, none⟩) m m) (W.alloc (.cells cs e (0, 0)))) (h : ∀ W' b, ST dd F w W' μ ((b, .cells cs e (0, 0)) :: L) → K (.slice (some ⟨b, 0, none⟩) m m) W') : oB P E ⟨d, .buildSlice t m c, ty, pos, af, g⟩ W K :=
 .inl ⟨.slice (some ⟨W.heap.size, 0, none⟩) m m, W.alloc (.cells cs e (0, 0)), by
   show (do pure (.value (← Instr.buildSlice t m (c.map fun (i, x) => (i, lC E x)))) : Sem Next).run P W = _
   rw [j]
   simp [k W], h _ _ (a.alloc _)⟩
theorem ST.store {A B : List (Nat × Obj)} {b : Nat} {cs : Array Value} {t : TypeId} (c : ST dd F w W μ (A ++ (b, .cells cs t (0, 0)) :: B)) (a : Array Value) :
  ST dd F w (W.setRow b a) μ (A ++ (b, .cells a t (0, 0)) :: B) := by
 have d := (c.box b _ (by simp : (b, Obj.cells cs t (0, 0)) ∈ A ++ (b, .cells cs t (0, 0)) :: B)).1
 refine c.put ⟨rfl, rfl, rfl, aT _, by simp [World.setRow]⟩ (fun k hk => ?_) (setRow_heap W b cs a t (0, 0) d)
 simp only [World.setRow, dF]
 rw [aX (fun e => hk e.symm)]
theorem CR (P : Program) {W : World} {t : TypeId} {b off : Nat} {cs : Array Value} {T : TypeId} (v : Value) (a : ∀ w, (sizeOf t).run P w = .ok v.cells.size w) (h1 : ∀ u ∈ v.cells.toList, u.oneCell' = true) (c : W.heap[b]? = some (.cells cs T (0, 0))) (d : off + v.cells.size ≤ cs.size) : (Instr.storeAt t (.pointer (some ⟨b, off, none⟩)) v).run P W = .ok () (W.setRow b (cs.toList.take off ++ v.cells.toList ++ cs.toList.drop (off + v.cells.size)).toArray) := by
 have := jW (P := P) b off T v.cells.toList 0 cs W c (by simpa using d) h1
 simp [Instr.storeAt, Instr.sureAddr, storeVar, a W]
 simpa using this
theorem Qh {K : Value → World → Prop} (A : List (Nat × Obj)) {B : List (Nat × Obj)} {t : TypeId} {x y : Operand} (v : Value) {b off : Nat} {cs : Array Value} {T : TypeId} (a : Array Value) (c : ST dd F w W μ (A ++ (b, .cells cs T (0, 0)) :: B)) (n : lC E x = .pointer (some ⟨b, off, none⟩)) (o : lC E y = v) (i : ∀ w, (sizeOf t).run P w = .ok v.cells.size w) (h1 : ∀ u ∈ v.cells.toList, u.oneCell' = true) (l : off + v.cells.size ≤ cs.size) (k : (cs.toList.take off ++ v.cells.toList ++ cs.toList.drop (off + v.cells.size)).toArray = a) (h : ∀ W', ST dd F w W' μ (A ++ (b, .cells a T (0, 0)) :: B) → K undef W') : oB P E ⟨d, .store t x y, ty, pos, af, g⟩ W K :=
 .inr (.inl ⟨W.setRow b a, by
   show (do Instr.storeAt t (lC E x) (lC E y); pure .skip : Sem Next).run P W = _
   have j := (c.box b _ (by simp : (b, Obj.cells cs T (0, 0)) ∈ A ++ (b, .cells cs T (0, 0)) :: B)).1
   rw [n, o]
   simp only [cC, CR P v i h1 j l, k, bM, cV], h _ (c.store a)⟩)
def lV (dd : Bool) (P : Program) (f : FuncId) (args : List Value) (w : World) (v : Value) : Prop := Calls P f args.toArray w fun e a => e = .returned v ∧ Ex dd w a
theorem NL {f : FuncId} {fv : Operand} {ax : Array Operand} {ats : Array TypeId} {caps args : Array Value} (a : lC E fv = .func (.func f) #[] caps) (he : ∀ args w, (callFunc f args).run P w = .ok (.enter f args) w) (ha : ax.map (lC E) ++ caps = args) :
  (execOp (lC E) ⟨d, .call ⟨.value fv, ax, ats⟩, ty, pos, af, g⟩).run P W = .ok (.enter f args) W := by
 show (do let d ← resolve (lC E) ⟨.value fv, ax, ats⟩ ty; invoke d.target d.args : Sem Next).run P W = _
 rw [← ha]
 simp only [resolve, a, Deferred.ofValue, cC, cV, bM, invoke]
 simp [he]
theorem CX {K : Value → World → Prop} {f : FuncId} {fv : Operand} {ax : Array Operand} {ats : Array TypeId} {caps args : Array Value} (a : lC E fv = .func (.func f) #[] caps) (he : ∀ args w, (callFunc f args).run P w = .ok (.enter f args) w) (ha : ax.map (lC E) ++ caps = args) (h : Calls P f args W fun e b => ∃ v, e = .returned v ∧ K v b) : oB P E ⟨d, .call ⟨.value fv, ax, ats⟩, ty, pos, af, g⟩ W K :=
 .inr (.inr ⟨f, args, NL a he ha, h⟩)
theorem Lr {K : Value → World → Prop} {f : FuncId} {fv : Operand} {ax : Array Operand} {ats : Array TypeId} {args : List Value} {v : Value} (a : ST dd F w W μ L) (i : lC E fv = .func (.func f) #[] #[]) (he : ∀ args w, (callFunc f args).run P w = .ok (.enter f args) w) (ha : (ax.map (lC E) ++ (#[] : Array Value)) = args.toArray) (c : lV dd P f args W v) (h : ∀ W', ST dd F w W' μ L → K v W') : oB P E ⟨d, .call ⟨.value fv, ax, ats⟩, ty, pos, af, g⟩ W K :=
 CX i he ha (dJ c (fun _ _ ⟨h1, b⟩ => ⟨v, h1, h _ (a.Fm b)⟩))
def lR {α : Type} (e : TypeId) (enc : α → List Value) (k : Nat) (v : Value) (l : List α) (R : List (Nat × Obj)) : Prop :=
 (v = .slice none 0 0 ∧ l = [] ∧ R = []) ∨
 ∃ g cap a, v = .slice (some ⟨g, 0, none⟩) l.length cap ∧ R = [(g, .cells a e (0, 0))] ∧ l.length ≤ cap ∧ cap ≤ maxLen ∧ a.size = cap * k ∧ a.toList.take (l.length * k) = (l.map enc).flatten
theorem rp {α : Type} {enc : α → List Value} {k : Nat} (hk : ∀ x, (enc x).length = k) : ∀ l : List α, (l.map enc).flatten.length = l.length * k
 | [] => by simp
 | x :: l => by simp [rp hk l, hk x, cO, Nat.add_comm]
theorem wK {α : Type} {enc : α → List Value} {k : Nat} (hk : ∀ x, (enc x).length = k) : ∀ (l : List α) (i : Nat) (x : α), l[i]? = some x → ∀ j y, (enc x)[j]? = some y → (l.map enc).flatten[i * k + j]? = some y
 | [], i, x, h => by cases h
 | z :: l, 0, x, h => by
  simp at h; subst h
  intro j y a
  have b : j < (enc z).length := (bG.1 a).1
  simp [ie, b]
  rw [cW b] at a
  simpa using a
 | z :: l, i + 1, x, h => by
  intro j y a
  have := wK hk l i x (by simpa using h) j y a
  simp only [bF, bJ]
  rw [fT (by rw [hk z]; have := Nat.le_mul_of_pos_left k (Nat.succ_pos i); simp [cO] at *; omega), hk z]
  rw [show (i + 1) * k + j - k = i * k + j by rw [cO]; omega]
  exact this
theorem GG {α : Type} {enc : α → List Value} {k : Nat} (hk : ∀ x, (enc x).length = k) : ∀ (l : List α) (q : Nat) (y : Value), (l.map enc).flatten[q]? = some y → ∃ i x j, l[i]? = some x ∧ (enc x)[j]? = some y ∧ q = i * k + j
 | [], q, y, h => by simp at h
 | z :: l, q, y, h => by
  simp only [bF, bJ] at h
  by_cases b : q < k
  ·rw [iw (by rw [hk]; exact b)] at h
   exact ⟨0, z, q, rfl, h, by simp⟩
  ·rw [fT (by rw [hk]; omega), hk] at h
   obtain ⟨i, x, j, h1, a, c⟩ := GG hk l (q - k) y h
   exact ⟨i + 1, x, j, by simpa using h1, a, by rw [cO]; omega⟩
theorem lR.nil {α : Type} (e : TypeId) (enc : α → List Value) (k : Nat) : lR e enc k (.slice none 0 0) [] [] := .inl ⟨rfl, rfl, rfl⟩
theorem lR.sl {α : Type} {e : TypeId} {enc : α → List Value} {k : Nat} {v : Value} {l : List α} {R : List (Nat × Obj)} {m : lZ} (h : lR e enc k v l R) (hk : ∀ x, (enc x).length = k) (hm : ∀ b o, (b, o) ∈ R → m b = some o) : Sl (Pl enc) k m v l := by
 rcases h with ⟨rfl, rfl, rfl⟩ | ⟨g, cap, a, rfl, rfl, h1, d, s, n⟩
 ·exact Sl.nil _ _ _
 ·refine ⟨_, cap, rfl, h1, d, fun _ => ⟨g, 0, a, e, (0, 0), rfl, hm _ _ (by simp), fun i x q => ⟨enc x, hk x, rfl, fun j y r => ?_⟩⟩⟩
  have := wK hk l i x q j y r
  rw [← n] at this
  have c : i * k + j < l.length * k := by
   have := (bG.1 this).1
   simp at this; omega
  rw [eJ c] at this
  simpa using this
theorem lR.len {α : Type} {e : TypeId} {enc : α → List Value} {k : Nat} {v : Value} {l : List α} {R : List (Nat × Obj)} (h : lR e enc k v l R) : l.length ≤ 9223372036854775807 := by
 rcases h with ⟨rfl, rfl, rfl⟩ | ⟨g, cap, a, rfl, rfl, h1, b, c, d⟩
 ·simp
 ·unfold maxLen at b; omega
theorem lR.fr {α : Type} {e : TypeId} {enc : α → List Value} {k : Nat} {v : Value} {l : List α} {R X Y : List (Nat × Obj)} (h : lR e enc k v l R) (a : ST dd mR w W μ (X ++ (R ++ Y))) : Fr w.heap.size v := by
 rcases h with ⟨rfl, rfl, rfl⟩ | ⟨g, cap, d, rfl, rfl, h1, i, j, n⟩
 ·exact Fr.nil _
 ·intro b c
  simp [Value.ownBlock] at c
  subst c
  rcases (a.box g _ (by simp; exact .inr (.inl rfl))).2.2 with h | h
  ·exact h
  ·exact h.elim
theorem lR.lit {α : Type} {e : TypeId} {enc : α → List Value} {k b m : Nat} {l : List α} {cs : Array Value} (hm : l.length = m) (c : m ≤ maxLen) (d : cs.toList = (l.map enc).flatten) (a : cs.size = m * k) : lR e enc k (.slice (some ⟨b, 0, none⟩) m m) l [(b, .cells cs e (0, 0))] := by
 subst hm
 refine .inr ⟨b, _, cs, rfl, rfl, aT _, c, a, ?_⟩
 rw [← d, ← a]
 exact dN (by rw [dA]; exact aT _)
def ol {α : Type} (a : Nat) (l m : List α) : Option (List α) := if (l.length + m.length) * a ≤ 140737488355328 ∧ l.length + m.length ≤ maxLen then some (l ++ m) else none
theorem JB {K : Value → World → Prop} {α : Type} {e t : TypeId} {enc : α → List Value} {k ab : Nat} {z v vs : Value} {l m r : List α} {R : List (Nat × Obj)} (X : List (Nat × Obj)) {Y : List (Nat × Obj)} {x y : Operand} {i : TypeInfo} (s : ST dd F w W μ (X ++ (R ++ Y))) (hk : ∀ x, (enc x).length = k) (b3 : 0 < k) (h1 : ∀ x, ∀ u ∈ enc x, u.oneCell' = true) (ht : P.underlying t = some (.slice e)) (hi : P.info? e = some i) (hz : i.zero = some z) (b7 : z.cells.size = k) (b4 : i.size = k) (b1 : i.bytes = ab) (hx : lC E x = v) (hy : lC E y = vs) (hR : lR e enc k v l R) (hs : Sl (Pl enc) k (hp W) vs m) (n : ol ab l m = some r) (h : ∀ W' v' R', ST dd F w W' μ (X ++ (R' ++ Y)) → lR e enc k v' r R' → K v' W') : oB P E ⟨d, .call ⟨.builtin .append, #[x, y], #[t, t]⟩, ty, pos, af, g⟩ W K := by
 unfold ol at n
 split at n
 case isFalse => cases n
 rename_i aj
 cases n
 have aa : ∀ (V : Value) (W' : World), (Builtin.append_ #[t, t] ty #[v, vs]).run P W = .ok V W' → (execOp (lC E) ⟨d, .call ⟨.builtin .append, #[x, y], #[t, t]⟩, ty, pos, af, g⟩).run P W = .ok (.value V) W' := by
  intro V W' hV
  show (do let d ← resolve (lC E) ⟨.builtin .append, #[x, y], #[t, t]⟩ ty; invoke d.target d.args : Sem Next).run P W = _
  simp [resolve, invoke, builtin, hx, hy, hV]
 obtain ⟨A, c, rfl, bc, bd, b2⟩ := hs
 have a8 : W.ownsRow 0 e k v l.length (l.map enc).flatten := by
  refine ⟨rp hk l, ?_⟩
  rcases hR with ⟨rfl, rfl, rfl⟩ | ⟨g, cap, J, rfl, rfl, h1, h2, h3, h4⟩
  ·exact .inl ⟨rfl, rfl⟩
  ·exact .inr ⟨g, cap, J, rfl, eA _, (s.box g _ (by simp)).1, h1, h2, h3, h4⟩
 have av : m.length = 0 ∨ ∃ ad, A = some ad ∧ ∀ j u, (m.map enc).flatten[j]? = some u → W.cell? (ad.add j) = some u := by
  rcases fH m.length with O | O
  ·exact .inl O
  ·obtain ⟨b, off, cs, T, fr, rfl, h6, h7⟩ := b2 O
   refine .inr ⟨⟨b, off, none⟩, rfl, fun j u hu => ?_⟩
   obtain ⟨i, x, q, h8, h9, rfl⟩ := GG hk m j u hu
   obtain ⟨ys, _, ay, az⟩ := h7 i x h8
   cases ay
   rw [dT, iK W b (off + (i * k + q)) cs T fr h6, ← fJ]
   exact az q u h9
 have au : ∀ u ∈ (m.map enc).flatten, u.oneCell' = true := by
  intro u hu
  obtain ⟨ys, b6, b5⟩ := kC.1 hu
  obtain ⟨x, _, rfl⟩ := bD.1 b6
  exact h1 x u b5
 by_cases ap : m.length = 0
 ·have hm : m = [] := aV ap
  subst hm
  have hr : (Builtin.append_ #[t, t] ty #[v, .slice A 0 c]).run P W = .ok v W := by
   rcases a8.2 with ⟨rfl, O⟩ | ⟨g, cap, J, rfl, _, hg, aq, _, bf, _⟩
   ·cases A with
    | none => simp [Builtin.append_, aU ht, sizeOf, typeInfo, hi, Builtin.lenOf, Builtin.firstCells]
    | some ad => simp [Builtin.append_, aU ht, sizeOf, typeInfo, hi, Builtin.lenOf, Builtin.firstCells, loadCells, loadCellsFrom]
   ·cases A with
    | none => simp [Builtin.append_, aU ht, sizeOf, typeInfo, hi, Builtin.lenOf, Builtin.firstCells, aq, storeCells]
    | some ad => simp [Builtin.append_, aU ht, sizeOf, typeInfo, hi, Builtin.lenOf, Builtin.firstCells, loadCells, loadCellsFrom, aq, storeCells]
  exact .inl ⟨v, W, aa _ _ (by simpa using hr), by simpa using h W v R s (by simpa using hR)⟩
 rcases av with O | ⟨ad, rfl, a1⟩
 ·exact absurd O ap
 obtain ⟨v', W', hr, ah, D, ba, M⟩ := run_append_own_at (P := P) W 0 t ty e i z k ab ht hi hz b4 b1 b7 b3 v l.length (l.map enc).flatten a8 ad m.length c (m.map enc).flatten (rp hk m) a1 au aj.2 aj.1 (eA _)
 have ae := pF _ _ _ _ hr
 refine .inl ⟨v', W', aa _ _ hr, ?_⟩
 have hlen : (l ++ m).length = l.length + m.length := by simp
 rcases ah.2 with ⟨_, O⟩ | ⟨U, a6, a7, rfl, _, ag, b9, ak, an, aw⟩
 ·omega
 have ai : lR e enc k (.slice (some ⟨U, 0, none⟩) (l.length + m.length) a6) (l ++ m) [(U, .cells a7 e (0, 0))] :=
  .inr ⟨U, a6, a7, by rw [hlen], rfl, by omega, ak, an, by rw [hlen, aw]; simp⟩
 refine h W' _ _ ?_ ai
 have ar := s.nd
 rcases hR with ⟨rfl, rfl, rfl⟩ | ⟨g, cap, J, rfl, rfl, q1, q2, q3, q4⟩
 ·-- nil: a new block
  have Z : W.heap.size ≤ U := by
   rcases M with h | h <;> simp [Value.ownBlock] at h
   omega
  have hex : Ex dd W W' := ⟨D.os, D.tape, D.output, uJ.of ae, D.size, fun b n => D.block b n (by simp [Value.ownBlock])⟩
  have h1 := s.Fm hex
  refine ⟨h1.os, h1.tape, h1.output, h1.drawn, h1.size, h1.nO, h1.mem, fun b o n => ?_, ?_⟩
  ·simp only [aR, bE] at n
   rcases n with n | n | n
   ·exact h1.box b o (by simp [n])
   ·cases n
    refine ⟨ag, ?_, .inl (dM s.size Z)⟩
    cases hm : μ U with
    | none => rfl
    | some x => have := s.DG hm; omega
   ·exact h1.box b o (by simp [n])
  ·simp only [bN, cJ, bF, gT] at ar ⊢
   refine (iA fS).2 (dH.2 ⟨fun hm => ?_, ar⟩)
   rw [← cJ] at hm
   obtain ⟨⟨b, o⟩, n, L⟩ := bD.1 hm
   have b0 : (b, o) ∈ X ++ ([] ++ Y) := by simpa using n
   have := s.Er b0
   simp at L
   omega
 ·by_cases ao : U = g
  ·subst ao
   have O : ST dd F w W μ (X ++ (U, Obj.cells J e (0, 0)) :: Y) := by simpa using s
   have hold : ∀ b, b < W.heap.size → b ≠ U → W'.heap[b]? = W.heap[b]? := fun b n I => D.block b n (by simp [Value.ownBlock]; exact I)
   have G := O.nd
   simp only [cJ, bF] at G
   have I : ∀ b o, (b, o) ∈ X ++ Y → b ≠ U := fun b o n L => by
    subst L
    rcases aR.1 n with n | n
    ·exact (bW.1 G).2.2 b (bD.2 ⟨_, n, rfl⟩) b (by simp) rfl
    ·exact (dH.1 (bW.1 G).2.1).1 (bD.2 ⟨_, n, rfl⟩)
   have Q := O.box U (Obj.cells J e (0, 0)) (by simp)
   refine ⟨D.os.trans s.os, D.tape.trans s.tape, D.output.trans s.output, uJ.trans s.drawn (uJ.of ae), dM s.size D.size, fun b n hF => ?_, fun b o n => ?_, fun b o n => ?_, by simpa using G⟩
   ·rw [hold b (eW n s.size) (fun L => by subst L; rcases Q.2.2 with h | h; omega; exact hF h)]
    exact s.nO b n hF
   ·rw [hold b (s.DG n) (fun L => by subst L; rw [Q.2.1] at n; cases n)]
    exact s.mem b o n
   ·simp only [aR, bE] at n
    rcases n with n | n | n
    ·obtain ⟨r1, r2⟩ := s.box b o (by simp [n])
     exact ⟨by rw [hold b (pb r1) (I b o (by simp [n]))]; exact r1, r2⟩
    ·cases n; exact ⟨ag, Q.2⟩
    ·obtain ⟨r1, r2⟩ := s.box b o (by simp [n])
     exact ⟨by rw [hold b (pb r1) (I b o (by simp [n]))]; exact r1, r2⟩
  ·have Z : W.heap.size ≤ U := by
    rcases M with h | h <;> simp [Value.ownBlock] at h
    ·exact absurd h ao
    ·omega
   have O : ST dd F w W μ (X ++ (g, Obj.cells J e (0, 0)) :: Y) := by simpa using s
   have Q := O.box g (Obj.cells J e (0, 0)) (by simp)
   have G := O.nd
   simp only [cJ, bF] at G
   have I : ∀ b o, (b, o) ∈ X ++ Y → b ≠ g := fun b o n L => by
    subst L
    rcases aR.1 n with n | n
    ·exact (bW.1 G).2.2 b (bD.2 ⟨_, n, rfl⟩) b (by simp) rfl
    ·exact (dH.1 (bW.1 G).2.1).1 (bD.2 ⟨_, n, rfl⟩)
   have hold : ∀ b, b < W.heap.size → b ≠ g → W'.heap[b]? = W.heap[b]? := fun b n I => D.block b n (by simp [Value.ownBlock]; exact I)
   refine ⟨D.os.trans s.os, D.tape.trans s.tape, D.output.trans s.output, uJ.trans s.drawn (uJ.of ae), dM s.size D.size, fun b n hF => ?_, fun b o n => ?_, fun b o n => ?_, ?_⟩
   ·rw [hold b (eW n s.size) (fun L => by subst L; rcases Q.2.2 with h | h; omega; exact hF h)]
    exact s.nO b n hF
   ·rw [hold b (s.DG n) (fun L => by subst L; rw [Q.2.1] at n; cases n)]
    exact s.mem b o n
   ·simp only [aR, bE] at n
    rcases n with n | n | n
    ·obtain ⟨r1, r2⟩ := s.box b o (by simp [n])
     exact ⟨by rw [hold b (pb r1) (I b o (by simp [n]))]; exact r1, r2⟩
    ·cases n
     refine ⟨ag, ?_, .inl (dM s.size Z)⟩
     cases hm : μ U with
     | none => rfl
     | some x => have := s.DG hm; omega
    ·obtain ⟨r1, r2⟩ := s.box b o (by simp [n])
     exact ⟨by rw [hold b (pb r1) (I b o (by simp [n]))]; exact r1, r2⟩
   ·have aE : (X.map (·.1) ++ Y.map (·.1)).Nodup := (dH.1 ((iA fS).1 G)).2
    simp only [cJ, bF, gT]
    refine (iA fS).2 (dH.2 ⟨fun hm => ?_, aE⟩)
    rw [← cJ] at hm
    obtain ⟨⟨b, o⟩, n, L⟩ := bD.1 hm
    have := s.Er (b := b) (o := o) (by rcases aR.1 n with h | h <;> simp [h])
    simp at L
    omega
end
end Go.Proofs.YtklbhegeiijbjaaGreat
namespace Go.Proofs.YtklbhegeiijbjaaGreat
open Go.RowKit
def Cc (l : List Value) : Nat → Value := fun t => l.getD t undef
def yU (P : Program) (fn : Func) (R : Ending → World → Prop) : sm
 | .normal, E, W | .ret, E, W => ∃ v, (∀ tmps : Array Value, (∀ t, tmps.getD t undef = E t) → (results fn tmps).run P W = .ok v W) ∧ R (.returned v) W
 | _, _, _ => False
theorem yu {P : Program} {f : FuncId} {fn : Func} {c : Code} {args : List Value} {w : World} {R : Ending → World → Prop} {n : Nat} (q : P.funcs[f]? = some fn) (o : fn.body = some c) (r : fn.ntmps = n) (ha : args.length ≤ n) (h : CW P n c (yU P fn R) (Cc args) w) : Calls P f args.toArray w R := by
 refine calls_of_wp q o ?_
 have i : Ag n { tmps := args.toArray ++ Array.replicate (fn.ntmps - args.toArray.size) undef, defers := [] } (Cc args) := by
  refine ⟨by simp; omega, rfl, fun t => ?_⟩
  simp only [Cc, fP, List.getD_eq_getElem?_getD, Array.getElem?_append, Array.getElem?_replicate, dU, List.getElem?_toArray]
  by_cases k : t < args.length
  ·rw [aZ k]
  ·rw [aX k, gU (by omega)]
   split <;> simp
 refine wp_mono (h _ i) (fun e a s d => ?_)
 cases e with
 | normal =>
  obtain ⟨E, b, v, j, g⟩ := d
  exact ⟨b.2.1, v, j _ b.2.2, g⟩
 | ret =>
  obtain ⟨E, b, v, j, g⟩ := d
  exact ⟨b.2.1, v, j _ b.2.2, g⟩
 | exit id => obtain ⟨E, b, h⟩ := d; exact h.elim
 | goto l => obtain ⟨E, b, h⟩ := d; exact h.elim
 | panic c => exact d.elim
 | outgrown => exact d.elim
section
variable {P : Program} {fn : Func} {R : Ending → World → Prop} {E : Nat → Value} {W : World}
theorem na {r : Tmp} {v : Value} (a : fn.results = #[.tmp r]) (c : E r = v) (h : R (.returned v) W) : yU P fn R .ret E W :=
 ⟨v, fun tmps b => by rw [results_tmp a, b, c], h⟩
theorem ui {r s : Tmp} {v u : Value} (b : fn.results = #[.tmp r, .tmp s]) (c : E r = v) (hu : E s = u) (h : R (.returned (.tuple #[v, u])) W) : yU P fn R .ret E W :=
 ⟨.tuple #[v, u], fun tmps a => by rw [results_tmp2 b, a, a, c, hu], h⟩
theorem qk (a : fn.results = #[]) (h : R (.returned (.tuple #[])) W) : yU P fn R .ret E W :=
 ⟨.tuple #[], fun tmps _ => by rw [results_none a], h⟩
theorem rN {r : Tmp} {t : TypeId} {a : Addr} {v : Value} (b : fn.results = #[.cell r t]) (g : E r = .pointer (some a)) (d : (Instr.loadAt t (.pointer (some a))).run P W = .ok v W) (h : R (.returned v) W) : yU P fn R .ret E W :=
 ⟨v, fun tmps c => by
  have h1 : (loadVar t a).run P W = .ok v W := by simpa [Instr.loadAt, Instr.sureAddr] using d
  simp [results, b, c, g, asAddr, h1], h⟩
theorem rS (h : yU P fn R .ret E W) : yU P fn R .normal E W := h
end
section
variable {Q : sm} {E : Nat → Value} {W : World} {K : (Nat → Value) → World → Prop} {id j : Nat}
theorem ms (h : Q .normal E W) : xC id Q .normal E W := h
theorem nE (h : Q .ret E W) : xC id Q .ret E W := h
theorem sU (h : Q .normal E W) : xC id Q (.exit id) E W := by simp [xC]; exact h
theorem Sj (a : (j = id) = False) (h : Q (.exit j) E W) : xC id Q (.exit j) E W := by simp only [xC, a, aK]; exact h
theorem lD (h : K E W) : rY K Q .normal E W := h
theorem mo (h : Q .ret E W) : rY K Q .ret E W := h
theorem ow (h : Q (.exit j) E W) : rY K Q (.exit j) E W := h
end
theorem NO {i N : Nat} (b : i < N) (a : N ≤ 9223372036854775807) : IntKind.i64.wrap ((i : Int) + 1) = ((i + 1 : Nat) : Int) := by
 rw [IntWalk.i64_in _ (by omega)]
 omega
theorem mQ {P : Program} {n : Nat} {Q : sm} {E : Nat → Value} {W : World} {g s U Y o q A u : Nat} {t1 t2 t3 t4 t5 t6 t7 : TypeId} {O R T : String} {f1 f2 f3 : Array Edge} {body : Code} (I : Nat → (Nat → Value) → World → Prop) (N : Nat) (J : N ≤ 9223372036854775807) (D : I 0 E W) (L : o < n) (M : u < n) (z : q < n) (G : ∀ i E W, I i E W → E q = .int .i64 (i : Nat) ∧ E A = .int .i64 (N : Nat)) (round : ∀ i E W, i < N → I i E W → CW P n (.block s body) (rY (fun E' W' => E' q = .int .i64 (i : Nat) ∧ I (i + 1) (pP (pP E' u (.int .i64 ((i + 1 : Nat) : Int))) q (.int .i64 ((i + 1 : Nat) : Int))) W') (xC g Q)) (pP E o (.bool true)) W) (done : ∀ E W, I N E W → Q .normal (pP E o (.bool false)) W) :
  CW P n (.block g (.loop (.seq (.region U #[⟨some o, .binOp .lss t1 (.tmp q) (.tmp A) t2, t3, O, f1, none⟩] false)
   (.seq (.cond (.tmp o) .skip (.exit g)) (.seq (.block s body)
    (.region Y #[⟨some u, .binOp .add t4 (.tmp q) (.const (.int .i64 1)) t5, t6, R, f2, none⟩, ⟨some q, .move (.tmp u), t7, T, f3, none⟩] false)))))) Q E W := by
 refine nz (ph (fun m E W => ∃ i, i ≤ N ∧ m = N - i ∧ I i E W) N ⟨0, eA _, by omega, D⟩ ?_)
 rintro m E W ⟨i, Z, rfl, d⟩
 obtain ⟨w, x⟩ := G i E W d
 refine lH (lG (HZ (.inl rfl) rfl L (mz w x rfl) (me ?_)))
 refine lD (lH ?_)
 have t : pP E o (.bool (decide ((i : Int) < (N : Int)))) o = .bool (decide ((i : Int) < (N : Int))) := by simp [pP]
 by_cases r : i < N
 ·have y : decide ((i : Int) < (N : Int)) = true := by simp; omega
  rw [y] at t ⊢
  refine wv t (mX (lD (lH ?_)))
  refine HP (round i E W r d) (fun e E' W' h => ?_)
  cases e with
  | normal =>
   obtain ⟨h1, F⟩ := h
   refine lD ?_
   have hw : IntKind.i64.wrap ((i : Int) + 1) = ((i + 1 : Nat) : Int) := NO r J
   refine lG (HZ (v := .int .i64 ((i + 1 : Nat) : Int)) (.inl rfl) rfl M (mz (k := .i64) (a := (i : Int)) (b := 1) h1 rfl (by simp only [I6, hw])) ?_)
   refine HZ (v := .int .i64 ((i + 1 : Nat) : Int)) (.inl rfl) rfl z (lz (by simp [lC, pP])) (me ?_)
   exact lD ⟨N - (i + 1), by omega, i + 1, by omega, rfl, F⟩
  | exit j => exact h
  | goto l => exact h
  | ret => exact h
  | panic c => exact h
  | outgrown => exact h
 ·have y : decide ((i : Int) < (N : Int)) = false := by simp; omega
  rw [y] at t ⊢
  obtain rfl : i = N := by omega
  refine re t (oI (ow (ow (sU ?_))))
  exact done E W d
theorem NW {P : Program} {n : Nat} {x : Code} {Q : sm} {K : (Nat → Value) → World → Prop} {E : Nat → Value} {W : World} (J : (Nat → Value) → World → Prop) (h : CW P n x (rY J Q) E W) (k : ∀ E W, J E W → K E W) : CW P n x (rY K Q) E W :=
 HP h (fun e E W h => by cases e <;> first | exact k E W h | exact h)
theorem RL {α : Type} {c : Bool} {x y r : α} (a : c = true) (h : (if c = true then x else y) = r) : x = r := by rw [aZ a] at h; exact h
theorem RP {α : Type} {c : Bool} {x y r : α} (a : c = false) (h : (if c = true then x else y) = r) : y = r := by rw [aX (by rw [a]; decide)] at h; exact h
theorem bind_some {α β : Type} {o : Option α} {f : α → Option β} {r : β} (h : o.bind f = some r) : ∃ y, o = some y ∧ f y = some r := by
 cases o with
 | none => cases h
 | some y => exact ⟨y, rfl, h⟩
theorem MW (b : Bool) : b = true ∨ b = false := by cases b <;> simp
theorem mA {α : Type} {l : List α} {i : Nat} (h : i < l.length) : ∃ x xs, l.drop i = x :: xs ∧ l[i]? = some x ∧ l.drop (i + 1) = xs := by
 cases a : l.drop i with
 | nil => have := aY List.length a; simp at this; omega
 | cons x xs => exact ⟨x, xs, rfl, by rw [← List.head?_drop, a]; rfl, by rw [← List.drop_drop, a]; rfl⟩
theorem EE {P : Program} {W : World} (d : Nat) (xs ys : Array Value) : (Op.eqFields d xs ys []).run P W = .ok true W := by simp [Op.eqFields]
theorem sJ {P : Program} {W : World} {d : Nat} {xs ys : Array Value} {f : Field} {c : List Field} {a b : Value} {r s : Bool} (i : f.name ≠ "_") (ha : (part f.type xs f.offset).run P W = .ok a W) (g : (part f.type ys f.offset).run P W = .ok b W) (he : (Op.equalIn d f.type a b).run P W = .ok r W) (h : (Op.eqFields d xs ys c).run P W = .ok s W) : (Op.eqFields d xs ys (f :: c)).run P W = .ok (r && s) W := by
 simp only [Op.eqFields, ne_eq, i, not_false_eq_true, aS, cC, ha, g, he, bM]
 cases r <;> simp [h]
theorem Al {P : Program} {W : World} {t : TypeId} {k : Nat} {cs : Array Value} {off : Nat} {v : Array Value} (a : ∀ w, (isAgg t).run P w = .ok true w) (b : ∀ w, (sizeOf t).run P w = .ok k w) (c : cs.extract off (off + k) = v) : (part t cs off).run P W = .ok (.agg v) W := by
 simp [part, a W, b W, c]
theorem ue {P : Program} {W : World} {t : TypeId} {cs : Array Value} {off : Nat} {v : Value} (a : ∀ w, (isAgg t).run P w = .ok false w) (b : cs[off]? = some v) : (part t cs off).run P W = .ok v W := by
 simp [part, a W, b]
def mK (a b : ByteArray) : Bool := a.toList == b.toList
theorem Px {P : Program} {t : TypeId} (c : P.underlying t = some .string) (d : Nat) (a b : ByteArray) (W : World) : (Op.equalIn (d + 1) t (.string a) (.string b)).run P W = .ok (mK a b) W := run_equalIn_string W d t a b c
theorem Ud {P : Program} {t : TypeId} {k : IntKind} (c : P.underlying t = some (.int k)) (d : Nat) (a b : Int) (W : World) : (Op.equalIn (d + 1) t (.int k a) (.int k b)).run P W = .ok (a == b) W := run_equalIn_int W d t k k a b c
theorem qV {P : Program} {op : BinOp} {t : TypeId} {x y : Operand} {a b : Array Value} (c : P.eqGuardType P.depth t = false) (W : World) : (eqGuard op t x y (.agg a) (.agg b)).run P W = .ok () W := by
 cases op <;> simp [eqGuard] <;> (intro h; rw [c] at h; cases h)
theorem xe {P : Program} {t : TypeId} {a b : Array Value} {r : Bool} (h : ∀ W, (Op.equalIn Op.maxDepth t (.agg a) (.agg b)).run P W = .ok r W) (W : World) : (binOp .eql t (.agg a) (.agg b)).run P W = .ok (.bool r) W := by
 simp [binOp, Op.equal, h W]
theorem Fi {P : Program} {t : TypeId} {a b : Array Value} {r : Bool} (h : ∀ W, (Op.equalIn Op.maxDepth t (.agg a) (.agg b)).run P W = .ok r W) (W : World) : (binOp .neq t (.agg a) (.agg b)).run P W = .ok (.bool !r) W := by
 simp [binOp, Op.equal, h W]
variable {dd : Bool}
def mj (k : IntKind) (x : Int) : List Value := [.int k x]
def DL (x : ByteArray) : List Value := [.string x]
theorem D5 (k : IntKind) (x : Int) : ∀ u ∈ mj k x, u.oneCell' = true := by intro u hu; simp [mj] at hu; subst hu; rfl
theorem RY (x : ByteArray) : ∀ u ∈ DL x, u.oneCell' = true := by intro u hu; simp [DL] at hu; subst hu; rfl
def zS : ByteArray := ⟨#[]⟩
def sa (a b : ByteArray) : Bool := Op.bytesLess a.toList b.toList
@[irreducible] def mq : Nat := 18446744073709551616
theorem wh : mq = 18446744073709551616 := by unfold mq; rfl
def mZ {α : Type} (l : List α) (i : Int) : Option α := if 0 ≤ i then l[i.toNat]? else none
theorem mc {α : Type} {l : List α} {i : Int} {x : α} (h : mZ l i = some x) : 0 ≤ i := by
 unfold mZ at h; split at h
 ·assumption
 ·cases h
theorem lU {α : Type} {l : List α} {i : Int} {x : α} (h : mZ l i = some x) : l[i.toNat]? = some x := by
 unfold mZ at h; split at h
 ·exact h
 ·cases h
theorem Fg {α : Type} (l : List α) (i : Nat) : mZ l (i : Int) = l[i]? := by simp [mZ]
def Av (s : ByteArray) (i : Int) : Option UInt8 := if 0 ≤ i then s[i.toNat]? else none
theorem KM {s : ByteArray} {i : Int} {x : UInt8} (h : Av s i = some x) : 0 ≤ i := by
 unfold Av at h; split at h
 ·assumption
 ·cases h
theorem OM {s : ByteArray} {i : Int} {x : UInt8} (h : Av s i = some x) : s[i.toNat]? = some x := by
 unfold Av at h; split at h
 ·exact h
 ·cases h
section
variable {F : Nat → Prop} {w W : World} {μ : lZ} {L L' : List (Nat × Obj)} {α : Type} {e : TypeId} {enc : α → List Value} {k : Nat} {v : Value} {l : List α} {R : List (Nat × Obj)}
theorem ST.at_ (h : ST dd F w W μ L) {b : Nat} {o : Obj} (a : (b, o) ∈ L) : hp W b = some o := (h.box b o a).1
theorem lR.Ts (h : lR e enc k v l R) (hk : ∀ x, (enc x).length = k) (a : ST dd F w W μ L) (b : ∀ p, p ∈ R → p ∈ L) : Sl (Pl enc) k (hp W) v l :=
 h.sl hk (fun _ _ c => a.at_ (b _ c))
theorem lR.form (h : lR e enc k v l R) : ∃ A c, v = .slice A l.length c := by
 rcases h with ⟨rfl, rfl, rfl⟩ | ⟨g, cap, a, rfl, rfl, h1, b, d, i⟩
 ·exact ⟨_, _, rfl⟩
 ·exact ⟨_, _, rfl⟩
theorem Sl.form {R : qp α} (h : Sl R k μ v l) : ∃ A c, v = .slice A l.length c := let ⟨A, c, h, _⟩ := h; ⟨A, c, h⟩
theorem Sl.lit {b m : Nat} {cs : Array Value} (hk : ∀ x, (enc x).length = k) (hm : l.length = m) (c : m ≤ maxLen) (a : cs.toList = (l.map enc).flatten) (d : μ b = some (.cells cs e (0, 0))) : Sl (Pl enc) k μ (.slice (some ⟨b, 0, none⟩) m m) l :=
 (lR.lit (e := e) (b := b) hm c a (by have := aY List.length a; rw [rp hk, dA, hm] at this; exact this)).sl hk (fun g o h => by simp at h; obtain ⟨rfl, rfl⟩ := h; exact d)
theorem Fr.box (h : ST dd mR w W μ L) {b m c : Nat} {o : Obj} (d : (b, o) ∈ L) : Fr w.heap.size (.slice (some ⟨b, 0, none⟩) m c) := by
 intro g a
 simp [Value.ownBlock] at a
 subst a
 rcases (h.box b o d).2.2 with h | h
 ·exact h
 ·exact h.elim
theorem ST.perm (h : ST dd F w W μ L) (hp : L.Perm L') : ST dd F w W μ L' :=
 ⟨h.os, h.tape, h.output, h.drawn, h.size, h.nO, h.mem, fun b o a => h.box b o (hp.mem_iff.2 a), (hp.map _).nodup_iff.1 h.nd⟩
theorem ST.sublist (h : ST dd F w W μ L) (a : L'.Sublist L) : ST dd F w W μ L' :=
 ⟨h.os, h.tape, h.output, h.drawn, h.size, h.nO, h.mem, fun b o c => h.box b o (a.subset c), h.nd.sublist (a.map _)⟩
end
section
variable {E : Nat → Value} {x1 x2 x3 x4 x5 x6 : Operand} {v1 v2 v3 v4 v5 v6 : Value}
theorem uT (h1 : lC E x1 = v1) : #[x1].map (lC E) ++ (#[] : Array Value) = [v1].toArray := by simp [h1]
theorem xv (h1 : lC E x1 = v1) (a : lC E x2 = v2) : #[x1, x2].map (lC E) ++ (#[] : Array Value) = [v1, v2].toArray := by simp [h1, a]
end
theorem Io : ∀ (v : List Value) (i off : Nat) (cells : Array Value), off + i + v.length ≤ cells.size →
  (v.zipIdx i).foldl (fun cs (c, j) => cs.setIfInBounds (off + j) c) cells = (cells.toList.take (off + i) ++ v ++ cells.toList.drop (off + i + v.length)).toArray
 | [], i, off, cells, h => by simp
 | c :: v, i, off, cells, h => by
  simp only [kD, jl]
  simp only [aI] at h
  rw [Io v (i + 1) off _ (by simp; omega)]
  have d : off + i < cells.toList.length := by simp; omega
  congr 1
  rw [Array.toList_setIfInBounds]
  apply fN
  intro j
  have g : (cells.toList.take (off + i)).length = off + i := by simp; omega
  by_cases h1 : j < off + i
  ·simp only [ie, aD, dK, jm, dA, aI, gK, fZ, dY]
   rw [show min (off + (i + 1)) cells.size = off + (i + 1) by omega, show min (off + i) cells.size = off + i by omega]
   rw [aZ (by omega), aZ (by omega), aZ (by omega), aX (by omega), aZ (by omega), aZ (by omega), aZ (by omega)]
  ·by_cases b : j = off + i
   ·subst b
    simp [ie, gK, fZ, show off + i < off + (i + 1) by omega]
    rw [aZ (by omega), aZ (by omega), aX (by omega), show off + i - min (off + i) cells.size = 0 by omega]
    rfl
   ·simp only [ie, aD, dK, jm, dA, aI, gK, fZ, dY]
    rw [show min (off + (i + 1)) cells.size = off + (i + 1) by omega, show min (off + i) cells.size = off + i by omega]
    by_cases a : j < off + (i + 1) + v.length
    ·rw [aZ a, aX (by omega), aZ (by omega), aX (by omega)]
     rw [show j - (off + i) = (j - (off + (i + 1))) + 1 by omega]
     simp
    ·rw [aX a, aX (by omega), aX (by omega)]
     congr 1
     omega
theorem J2 {k : Nat} : ∀ (vs : List Value) (i : Nat) (pre rest : List Value), (∀ v ∈ vs, v.cells.size = k) → pre.length = i * k → rest.length = vs.length * k →
  Instr.fill (fun i => some (i * k, k)) (pre ++ rest).toArray ((vs.zipIdx i).map (fun p => (p.2, p.1))) = some (pre ++ vs.flatMap (fun v => v.cells.toList)).toArray
 | [], i, pre, rest, d, hp, b => by
  have : rest = [] := by cases rest <;> simp at b ⊢
  simp [Instr.fill, this]
 | v :: vs, i, pre, rest, d, hp, b => by
  have a := d v (by simp)
  have g : v.cells.zipIdx.foldl (fun cs (c, j) => cs.setIfInBounds (i * k + j) c) (pre ++ rest).toArray = (pre ++ v.cells.toList ++ rest.drop k).toArray := by
   have := Io v.cells.toList 0 (i * k) (pre ++ rest).toArray (by simp [hp, b, a, cO])
   rw [← Array.toList_zipIdx, Array.foldl_toList] at this
   rw [this]
   congr 1
   simp [← hp, a]
  simp only [kD, bF, Instr.fill]
  rw [aX (by simp [a, hp, b, cO]), g]
  have := J2 vs (i + 1) (pre ++ v.cells.toList) (rest.drop k) (fun u hu => d u (by simp [hu])) (by simp [hp, a, cO]) (by simp [b, cO])
  rw [this]
  simp
theorem Ov {k m : Nat} {a cs : Array Value} {qs : Array (Nat × Value)} (vs : List Value) (c : qs.toList = vs.zipIdx.map (fun p => (p.2, p.1))) (g : ∀ v ∈ vs, v.cells.size = k) (hm : vs.length = m) (d : a.size = m * k) (b : (vs.flatMap (fun v => v.cells.toList)).toArray = cs) : Instr.fill (fun i => some (i * k, k)) a qs.toList = some cs := by
 subst hm b
 rw [c]
 have := J2 vs 0 [] a.toList g (by simp) (by simpa using d)
 simpa using this
theorem tY {P : Program} {t e : TypeId} {m k : Nat} {z : Value} {qs : Array (Nat × Value)} {cs : Array Value} (vs : List Value) (g : P.underlying t = some (.slice e)) (d : ∀ w, (sizeOf e).run P w = .ok k w) (i : ∀ w, (zeroValue e).run P w = .ok z w) (hm : m * k ≤ 16777216) (c : qs.toList = vs.zipIdx.map (fun p => (p.2, p.1))) (h : ∀ v ∈ vs, v.cells.size = k) (b : vs.length = m) (a : (vs.flatMap (fun v => v.cells.toList)).toArray = cs) (W : World) :
  (Instr.buildSlice t m qs).run P W = .ok (.slice (some ⟨W.heap.size, 0, none⟩) m m) (W.alloc (.cells cs e (0, 0))) :=
 HL g d i hm (Ov vs c h b (by simp) a) W
theorem sC {E : Nat → Value}  : (#[] : Array (Nat × Operand)).map (fun (i, x) => (i, lC E x)) = #[] := by simp
theorem om {E : Nat → Value} {x0 : Operand} {v0 : Value} {i0 : Nat} (a : lC E x0 = v0) : (#[(i0, x0)] : Array (Nat × Operand)).map (fun (i, x) => (i, lC E x)) = #[(i0, v0)] := by simp [a]
theorem sQ {E : Nat → Value} {x0 x1 : Operand} {v0 v1 : Value} {i0 i1 : Nat} (a : lC E x0 = v0) (h1 : lC E x1 = v1) : (#[(i0, x0), (i1, x1)] : Array (Nat × Operand)).map (fun (i, x) => (i, lC E x)) = #[(i0, v0), (i1, v1)] := by simp [a, h1]
theorem Fb {E : Nat → Value} {x0 x1 x2 : Operand} {v0 v1 v2 : Value} {i0 i1 i2 : Nat} (a : lC E x0 = v0) (h1 : lC E x1 = v1) (b : lC E x2 = v2) : (#[(i0, x0), (i1, x1), (i2, x2)] : Array (Nat × Operand)).map (fun (i, x) => (i, lC E x)) = #[(i0, v0), (i1, v1), (i2, v2)] := by simp [a, h1, b]
theorem RK {E : Nat → Value} {x0 x1 x2 x3 : Operand} {v0 v1 v2 v3 : Value} {i0 i1 i2 i3 : Nat} (a : lC E x0 = v0) (h1 : lC E x1 = v1) (b : lC E x2 = v2) (c : lC E x3 = v3) : (#[(i0, x0), (i1, x1), (i2, x2), (i3, x3)] : Array (Nat × Operand)).map (fun (i, x) => (i, lC E x)) = #[(i0, v0), (i1, v1), (i2, v2), (i3, v3)] := by simp [a, h1, b, c]
theorem my {P : Program} {t : TypeId} {f off : Nat} {a : Array Field} {fd : Field} (h : P.underlying t = some (.struct a)) (c : a[f]? = some fd) {k : Nat} (g : ∀ w, (sizeOf fd.type).run P w = .ok k w) (hk : k ≠ 0) (d : fd.offset = off) : ni P t f off := by
 intro b o w
 subst d
 simp [Instr.fieldAt, aU h, c, Instr.sureAddr, fieldPlace, dT, g w, hk]
theorem Ag.L7 {n : Nat} {a : Act} {E : Nat → Value} (h : Ag n a E) {ops : Array Oper} {j t : Nat} (c : (ops[j]?).bind (·.dst) = some t) (g : t < n) (i : E t = undef) : yielded ops a.tmps j = none := by
 have b := h.2.2 t
 have d : a.tmps[t]? = some (E t) := by
  rw [← b]
  simp [fP, h.1, g]
 simp [yielded, c, d, i, undef]
theorem TV {P : Program} {n : Nat} {Q : sm} {E : Nat → Value} {W : World} {ops : Array Oper} {rest : List Oper} {A : Value → Prop} {o : Oper} {dd : Nat} (hw : lT n ops E o) (b : o.dst = some dd) (c : dd < n) (d : ∃ p, A p ∧ ∀ W, nx P E o W p W) (h : ∀ p, A p → LW P n ops Q rest (pP E dd p) W) : LW P n ops Q (o :: rest) E W := by
 obtain ⟨p, h1, a⟩ := d
 exact HZ hw b c (a W) (h p h1)
end Go.Proofs.YtklbhegeiijbjaaGreat
namespace Go.Proofs.YtklbhegeiijbjaaGreat
open Go.RowKit
variable {dd : Bool}
theorem vO {P : Program} {n : Nat} {x : Code} {Q : sm} {E : Nat → Value} {W : World} (h : CW P n x (rY (fun E W => Q .normal E W) Q) E W) : CW P n x Q E W :=
 HP h (fun e E W h => by cases e <;> exact h)
section
variable {P : Program} {n : Nat} {Q : sm} {E : Nat → Value} {W : World} {d : Option Nat} {ty : TypeId} {pos : String} {af : Array Edge} {g : Option (Nat × Bool)}
 {F : Nat → Prop} {w : World} {μ : lZ} {L : List (Nat × Obj)}
def PF (k : IntKind) (op : BinOp) (a b : Int) : Option Value :=
 match op with
 | .quo => some (.int k (k.wrap (a.tdiv b)))
 | .rem => some (.int k (a.tmod b))
 | .and => some (.int k (k.wrap (BitVec.ofInt k.bits a &&& BitVec.ofInt k.bits b).toNat))
 | .or => some (.int k (k.wrap (BitVec.ofInt k.bits a ||| BitVec.ofInt k.bits b).toNat))
 | _ => none
theorem Mx {op : BinOp} {c n : TypeId} {x y : Operand} {k : IntKind} {a b : Int} {v : Value} (j : lC E x = .int k a) (l : lC E y = .int k b) (i : b ≠ 0) (h : PF k op a b = some v) :
  nx P E ⟨d, .binOp op c x y n, ty, pos, af, g⟩ W v W := by
 show (do let r ← (do eqGuard op c x y (lC E x) (lC E y); binOp op c (lC E x) (lC E y)); pure (.value r) : Sem Next).run P W = _
 rw [j, l]
 cases op <;> simp [PF] at h <;> subst h <;> simp [eqGuard, binOp, Op.intDiv, Op.intBits, i]
theorem Fz {c j : TypeId} {x y : Operand} {k k' : IntKind} {a b : Int} (h : lC E x = .int k a) (i : lC E y = .int k' b) (l : 0 ≤ b) :
  nx P E ⟨d, .binOp .shr c x y j, ty, pos, af, g⟩ W (.int k (a.fdiv (2 ^ min b.toNat k.bits))) W := by
 show (do let r ← (do eqGuard .shr c x y (lC E x) (lC E y); binOp .shr c (lC E x) (lC E y)); pure (.value r) : Sem Next).run P W = _
 rw [h, i]
 simp [eqGuard, binOp, Op.shift, show ¬ b < 0 by omega]
theorem rT {s t : TypeId} {x : Operand} {k k' : IntKind} {a : Int} {u : TypeDesc} (b : P.underlying s = some u) (c : P.underlying t = some (.int k)) (h : lC E x = .int k' a) :
  nx P E ⟨d, .convert s t x, ty, pos, af, g⟩ W (.int k (k.wrap a)) W := by
 show (do pure (.value (← convert s t (lC E x))) : Sem Next).run P W = _
 rw [h]
 simp [convert, aU b, aU c, Conv.intToInt]
theorem HR {t e : TypeId} (dd : Nat) (a : P.underlying t = some (.slice e)) (A : Option Addr) (l c : Nat) (W : World) : (Op.equalIn (dd + 1) t (.slice A l c) (.slice none 0 0)).run P W = .ok A.isNone W := by
 cases A <;> simp [Op.equalIn, aU a]
theorem zd {a k e : TypeId} {x y : Operand} {A : Option Addr} {l c : Nat} (h : P.underlying a = some (.slice e)) (i : lC E x = .slice A l c) (j : lC E y = .slice none 0 0) :
  nx P E ⟨d, .binOp .eql a x y k, ty, pos, af, g⟩ W (.bool A.isNone) W := by
 show (do let r ← (do eqGuard .eql a x y (lC E x) (lC E y); binOp .eql a (lC E x) (lC E y)); pure (.value r) : Sem Next).run P W = _
 rw [i, j]
 have b := HR 9999 h A l c W
 simp [eqGuard, binOp, Op.equal, show Op.maxDepth = 9999 + 1 from rfl, b]
def sP (s : ByteArray) : List Int := s.data.toList.map (fun b => (b.toNat : Int))
def Dz (s : ByteArray) : Option (List Int) := if s.size ≤ maxLen then some (sP s) else none
theorem qG (s : ByteArray) : (sP s).length = s.size := by simp only [sP, cY, dA]; rfl
theorem MM {s : ByteArray} {cap i : Nat} {x : Int} (h : (sP s)[i]? = some x) : (bytesRow s cap)[i]? = some (.int .u8 x) := by
 have d : i < s.size := by have := (bG.1 h).1; rwa [qG] at this
 have a : i < s.data.size := d
 simp [sP] at h
 obtain ⟨b, c, rfl⟩ := h
 rw [bytesRow, Array.getElem?_append_left (by simpa using a)]
 simp [c]
theorem IF {K : Value → World → Prop} {s t e : TypeId} {x : Operand} {str : ByteArray} {l : List Int} (c : ST dd F w W μ L) (r : P.underlying s = some .string) (q : P.underlying t = some (.slice e)) (he : P.underlying e = some (.int .u8)) (n : lC E x = .string str) (a : Dz str = some l) (h : ∀ W' v μ', ST dd F w W' μ' L → lP μ μ' → Lo F w μ μ' → Sl (Pl (mj .u8)) 1 μ' v l → Fr w.heap.size v → K v W') : oB P E ⟨d, .convert s t x, ty, pos, af, g⟩ W K := by
 unfold Dz at a
 split at a
 case isFalse => cases a
 rename_i hm
 cases a
 have k := run_bytes_of_string (P := P) W s t e str r q he
 have h1 := c.drew.alloc (.cells (bytesRow str (grownCap W str.size 0 e)) e ((bytesRow str (grownCap W str.size 0 e)).size, (bytesRow str (grownCap W str.size 0 e)).size + 1))
 refine .inl ⟨.slice (some ⟨W.heap.size, 0, none⟩) str.size (grownCap W str.size 0 e), _, ?_, h _ _ _ (ST.Fu (A := []) h1) (ST.Fh (A := []) h1) (ST.Ki (A := []) h1) ?_ ?_⟩
 ·show (do pure (.value (← convert s t (lC E x))) : Sem Next).run P W = _
  rw [n]
  simp only [cC, k, bM, cV]
 ·refine ⟨_, grownCap W str.size 0 e, by rw [qG], by rw [qG]; exact grownCap_ge W str.size 0 e, jA W str.size 0 e hm, fun _ => ⟨W.heap.size, 0, bytesRow str (grownCap W str.size 0 e), e, _, rfl, aZ rfl, fun i x n => ⟨_, rfl, rfl, fun j y o => ?_⟩⟩⟩
  cases j with
  | zero => simp [mj] at o; subst o; simpa using MM n
  | succ j => simp [mj] at o
 ·intro b a
  simp [Value.ownBlock] at a
  subst a
  exact c.size
def xf (l : List Int) : ByteArray := l.foldl (fun r n => r.push (UInt8.ofNat n.toNat)) ByteArray.empty
theorem Fq {s t e : TypeId} {x : Operand} {v : Value} {l : List Int} (D : P.underlying s = some (.slice e)) (he : P.underlying e = some (.int .u8)) (z : P.underlying t = some .string) (G : lC E x = v) (F : Sl (Pl (mj .u8)) 1 (hp W) v l) :
  nx P E ⟨d, .convert s t x, ty, pos, af, g⟩ W (.string (xf l)) W := by
 show (do pure (.value (← convert s t (lC E x))) : Sem Next).run P W = _
 obtain ⟨A, c, rfl, I, J, r⟩ := F
 rw [G]
 simp only [cC, run_convert_bytes_string W s t e A l.length c D he z]
 rcases fH l.length with h | h
 ·have : l = [] := eX.1 h
  subst this
  cases A with
  | none => simp [Conv.bytesToString, xf]
  | some a =>
   have u := run_bytesToString (P := P) W a 0 c [] (by simpa using jz (P := P) W a [] (by simp))
   simp only [bQ]
   rw [u]
   simp [xf]
 ·obtain ⟨b, off, cs, T, fr, rfl, w, y⟩ := r h
  have q := jz (P := P) W ⟨b, off, none⟩ (l.map (Value.int .u8)) (fun j v o => by
   simp at o
   obtain ⟨x, k, rfl⟩ := o
   obtain ⟨ys, _, n, i⟩ := y j x k
   cases n
   rw [dT, iK W b (off + j) cs T fr w]
   have := i 0 (.int .u8 x) rfl
   simpa using this)
  simp only [cY] at q
  rw [run_bytesToString W _ l.length c l q]
  simp [xf]
end
end Go.Proofs.YtklbhegeiijbjaaGreat
namespace Go.Proofs.YtklbhegeiijbjaaGreat
open Go.RowKit
variable {dd : Bool}
def keys (L : List (Nat × Obj)) : Nat → Prop := fun b => ∃ o, (b, o) ∈ L
structure T6 (dd : Bool) (F : Nat → Prop) (w W : World) : Prop where
 os : W.os = w.os
 tape : W.tape = w.tape
 output : W.output = w.output
 drawn : uJ dd w.drawn W.drawn
 size : w.heap.size ≤ W.heap.size
 nO : ∀ b, b < w.heap.size → ¬ F b → W.heap[b]? = w.heap[b]?
def EX (L : List (Nat × Obj)) (W : World) : Prop := ∀ b o, (b, o) ∈ L → W.heap[b]? = some o
structure uY (dd : Bool) (L0 L1 : List (Nat × Obj)) (w w' : World) : Prop where
 ex : T6 dd (keys L0) w w'
 held : ∀ b o, (b, o) ∈ L1 → w'.heap[b]? = some o ∧ (w.heap.size ≤ b ∨ keys L0 b)
 nd : (L1.map (·.1)).Nodup
open Classical in
noncomputable def vv (w : World) (L : List (Nat × Obj)) : lZ := fun b => if keys L b then none else w.heap[b]?
open Classical in
noncomputable def Cq (μ : lZ) (W W' : World) (L1 : List (Nat × Obj)) : lZ := fun b => if b < W.heap.size then μ b else if keys L1 b then none else W'.heap[b]?
section
variable {F : Nat → Prop} {w W W' : World} {μ μ' : lZ} {L L0 L1 : List (Nat × Obj)}
theorem ST.R5 (a : EX L0 w) (c : (L0.map (·.1)).Nodup) : ST dd (keys L0) w w (vv w L0) L0 :=
 ⟨rfl, rfl, rfl, uJ.of (aT _), aT _, fun _ _ _ => rfl, fun b o h => by
  unfold vv at h; split at h
  ·cases h
  ·exact h, fun b o h => ⟨a b o h, by unfold vv; rw [aZ ⟨o, h⟩], .inr ⟨o, h⟩⟩, c⟩
theorem Fl {A B : List (Nat × Obj)} (h : ((A ++ B).map (·.1)).Nodup) {b : Nat} {o : Obj} (a : (b, o) ∈ B) : ¬ keys A b := by
 rintro ⟨d, c⟩
 rw [cJ] at h
 exact (bW.1 h).2.2 b (bD.2 ⟨_, c, rfl⟩) b (bD.2 ⟨_, a, rfl⟩) rfl
theorem ST.back (h : ST dd F w W μ (L0 ++ L)) (j : uY dd L0 L1 W W') : ST dd F w W' (Cq μ W W' L1) (L1 ++ L) := by
 have hk : ∀ b, keys L0 b → b < W.heap.size ∧ μ b = none ∧ (w.heap.size ≤ b ∨ F b) := fun b ⟨o, d⟩ => by
  obtain ⟨h1, g, n⟩ := h.box b o (cI _ d)
  exact ⟨pb h1, g, n⟩
 refine ⟨j.ex.os.trans h.os, j.ex.tape.trans h.tape, j.ex.output.trans h.output, uJ.trans h.drawn j.ex.drawn, dM h.size j.ex.size, fun b i q => ?_, fun b o d => ?_, fun b o d => ?_, ?_⟩
 ·rw [j.ex.nO b (eW i h.size) (fun k => by
   rcases (hk b k).2.2 with h | h
   ·omega
   ·exact q h)]
  exact h.nO b i q
 ·unfold Cq at d
  split at d
  ·rename_i i
   rw [j.ex.nO b i (fun k => by rw [(hk b k).2.1] at d; cases d)]
   exact h.mem b o d
  ·split at d
   ·cases d
   ·exact d
 ·rcases aR.1 d with d | d
  ·obtain ⟨h1, g⟩ := j.held b o d
   refine ⟨h1, ?_, ?_⟩
   ·unfold Cq
    split
    ·rename_i i
     rcases g with g | g
     ·omega
     ·exact (hk b g).2.1
    ·rw [aZ ⟨o, d⟩]
   ·rcases g with g | g
    ·exact .inl (dM h.size g)
    ·exact (hk b g).2.2
  ·obtain ⟨h1, g, n⟩ := h.box b o (eH _ d)
   refine ⟨?_, ?_, n⟩
   ·rw [j.ex.nO b (pb h1) (Fl h.nd d)]; exact h1
   ·unfold Cq; rw [aZ (pb h1)]; exact g
 ·rw [cJ]
  have s : (L.map (·.1)).Nodup := by have := h.nd; rw [cJ] at this; exact (bW.1 this).2.1
  refine bW.2 ⟨j.nd, s, fun a ha c t e => ?_⟩
  subst e
  obtain ⟨⟨b, o⟩, d, rfl⟩ := bD.1 ha
  obtain ⟨⟨r, u⟩, l, e⟩ := bD.1 t
  simp at e; subst e
  have i := h.Er (eH _ l)
  rcases (j.held r o d).2 with g | g
  ·omega
  ·exact Fl h.nd l g
theorem ST.Kc (h : ST dd F w W μ L) (W' : World) (L1 : List (Nat × Obj)) : Lo F w μ (Cq μ W W' L1) := fun b a _ => aZ (eW a h.size)
theorem ST.Ik (h : ST dd F w W μ L) (W' : World) (L1 : List (Nat × Obj)) : lP μ (Cq μ W W' L1) := fun b o a => by
 unfold Cq; rw [aZ (h.DG a)]; exact a
theorem ST.mE (h : ST dd F w W μ L) (c : ∀ p, p ∈ L0 → p ∈ L) : lP μ (vv W L0) := fun b o a => by
 unfold vv
 rw [aX]
 ·exact h.mem b o a
 ·rintro ⟨g, d⟩
  rw [(h.box b g (c _ d)).2.1] at a
  cases a
theorem uY.I7 (h : Ex dd w W) (c : ∀ b o, (b, o) ∈ L1 → W.heap[b]? = some o ∧ w.heap.size ≤ b) (d : (L1.map (·.1)).Nodup) : uY dd [] L1 w W :=
 ⟨⟨h.os, h.tape, h.output, h.drawn, h.size, fun b a _ => h.nO b a⟩, fun b o a => ⟨(c b o a).1, .inl (c b o a).2⟩, d⟩
end
def nl (dd : Bool) (P : Program) (f : FuncId) (args : List Value) (w : World) (L0 : List (Nat × Obj)) (K : Value → List (Nat × Obj) → World → Prop) : Prop :=
 Calls P f args.toArray w fun e a => ∃ v L1, e = .returned v ∧ uY dd L0 L1 w a ∧ K v L1 a
def nR (dd : Bool) {α : Type} (P : Program) (f : FuncId) (args : List Value) (w : World) (e : TypeId) (enc : α → List Value) (k : Nat) (l : List α) : Prop :=
 nl dd P f args w [] fun v R _ => lR e enc k v l R
theorem uY.ng {L0 L1 : List (Nat × Obj)} {w a : World} (h : uY true L0 L1 w a) : uY dd L0 L1 w a := ⟨⟨h.ex.os, h.ex.tape, h.ex.output, uJ.of (h.ex.drawn rfl), h.ex.size, h.ex.nO⟩, h.held, h.nd⟩
theorem lV.ng {P : Program} {f : FuncId} {args : List Value} {w : World} {v : Value} (h : lV true P f args w v) : lV dd P f args w v := dJ h fun _ _ h => ⟨h.1, h.2.ng⟩
theorem nl.ng {P : Program} {f : FuncId} {args : List Value} {w : World} {L0 : List (Nat × Obj)} {K : Value → List (Nat × Obj) → World → Prop} (h : nl true P f args w L0 K) : nl dd P f args w L0 K := dJ h fun _ _ ⟨v, L1, h1, a, b⟩ => ⟨v, L1, h1, a.ng, b⟩
theorem nR.ng {α : Type} {P : Program} {f : FuncId} {args : List Value} {w : World} {e : TypeId} {enc : α → List Value} {k : Nat} {l : List α} (h : nR true P f args w e enc k l) : nR dd P f args w e enc k l := nl.ng h
section
variable {P : Program} {E : Nat → Value} {W : World} {d : Option Nat} {ty : TypeId} {pos : String} {af : Array Edge} {g : Option (Nat × Bool)}
 {F : Nat → Prop} {w : World} {μ : lZ} {L : List (Nat × Obj)}
theorem OO {K : Value → World → Prop} {K' : Value → List (Nat × Obj) → World → Prop} {f : FuncId} {fv : Operand} {ax : Array Operand} {ats : Array TypeId} {caps : Array Value} {args : List Value} (L0 L2 : List (Nat × Obj)) (a : ST dd F w W μ L) (b : L.Perm (L0 ++ L2)) (k : lC E fv = .func (.func f) #[] caps) (he : ∀ args w, (callFunc f args).run P w = .ok (.enter f args) w) (ha : ax.map (lC E) ++ caps = args.toArray) (j : nl dd P f args W L0 K') (h : ∀ W' v μ' L1, ST dd F w W' μ' (L1 ++ L2) → lP μ μ' → Lo F w μ μ' → K' v L1 W' → K v W') : oB P E ⟨d, .call ⟨.value fv, ax, ats⟩, ty, pos, af, g⟩ W K :=
 CX k he ha (dJ j (fun _ W' ⟨v, L1, h1, c, i⟩ => ⟨v, h1, h W' v _ L1 ((a.perm b).back c) ((a.perm b).Ik W' L1) ((a.perm b).Kc W' L1) i⟩))
theorem Mj {K : Value → World → Prop} {α : Type} {e : TypeId} {enc : α → List Value} {k : Nat} {l : List α} {f : FuncId} {fv : Operand} {ax : Array Operand} {ats : Array TypeId} {caps : Array Value} {args : List Value} (X Y : List (Nat × Obj)) (a : ST dd F w W μ (X ++ Y)) (n : lC E fv = .func (.func f) #[] caps) (he : ∀ args w, (callFunc f args).run P w = .ok (.enter f args) w) (ha : ax.map (lC E) ++ caps = args.toArray) (j : nR dd P f args W e enc k l) (h : ∀ W' v μ' R, ST dd F w W' μ' (X ++ (R ++ Y)) → lP μ μ' → Lo F w μ μ' → lR e enc k v l R → K v W') : oB P E ⟨d, .call ⟨.value fv, ax, ats⟩, ty, pos, af, g⟩ W K :=
 OO [] (X ++ Y) a (.refl _) n he ha j (fun W' v μ' L1 h1 b i c => h W' v μ' L1 (h1.perm (by rw [← aQ, ← aQ]; exact List.perm_append_comm.append_right Y)) b i c)
end
theorem ST.px {w W : World} {μ : lZ} {L R : List (Nat × Obj)} (h : ST dd mR w W μ L) (a : ∀ p, p ∈ R → p ∈ L) (d : (R.map (·.1)).Nodup) : uY dd [] R w W :=
 uY.I7 h.ex (fun b o c => ⟨(h.box b o (a _ c)).1, by
  rcases (h.box b o (a _ c)).2.2 with h | h
  ·exact h
  ·exact h.elim⟩) d
theorem sw {P : Program} {E : Nat → Value} {W : World} {d : Option Nat} {ty : TypeId} {pos : String} {af : Array Edge} {g : Option (Nat × Bool)} {α : Type} {e' : TypeId} {enc : α → List Value} {k : Nat} {v : Value} {l : List α} {R : List (Nat × Obj)} {x : Operand} {t e : TypeId} (a : P.underlying t = some (.slice e)) (b : lC E x = v) (h : lR e' enc k v l R) : nx P E ⟨d, .call ⟨.builtin .len, #[x], #[t]⟩, ty, pos, af, g⟩ W (.int .i64 l.length) W := by
 obtain ⟨A, c, rfl⟩ := h.form
 exact As a b
section
variable {α : Type} {e : TypeId} {enc : α → List Value} {k : Nat} {v : Value} {l : List α} {R : List (Nat × Obj)}
theorem lR.nd (h : lR e enc k v l R) : (R.map (·.1)).Nodup := by
 rcases h with ⟨rfl, rfl, rfl⟩ | ⟨g, cap, a, rfl, rfl, _⟩ <;> simp
end
end Go.Proofs.YtklbhegeiijbjaaGreat
namespace Go.Proofs.YtklbhegeiijbjaaGreat
open Go.RowKit
variable {dd : Bool}
def BB (R : List (Nat × Obj)) (k : Nat) (p : Value) (i : Nat) : Prop := ∃ g o, R = [(g, o)] ∧ p = .pointer (some ⟨g, i * k, none⟩)
section
variable {P : Program} {E : Nat → Value} {W : World} {d : Option Nat} {ty : TypeId} {pos : String} {af : Array Edge} {g : Option (Nat × Bool)}
 {F : Nat → Prop} {w : World} {μ : lZ} {L : List (Nat × Obj)} {α : Type} {e' : TypeId} {enc : α → List Value} {k : Nat} {v : Value} {l : List α} {R : List (Nat × Obj)}
theorem oY {t e : TypeId} {x b : Operand} {y : IntKind} {i : Int} {x0 : α} (s : P.underlying t = some (.slice e)) (he : ∀ w, (sizeOf e).run P w = .ok k w) (u : lC E x = v) (q : lC E b = .int y i) (h : lR e' enc k v l R) (n : 0 ≤ i) (r : l[i.toNat]? = some x0) :
  ∃ p, BB R k p i.toNat ∧ ∀ W, nx P E ⟨d, .indexAddr t x b, ty, pos, af, g⟩ W p W := by
 have a : i.toNat < l.length := (bG.1 r).1
 rcases h with ⟨rfl, rfl, rfl⟩ | ⟨j, cap, c, rfl, rfl, h1, z, A, D⟩
 ·simp at a
 refine ⟨.pointer (some ⟨j, i.toNat * k, none⟩), ⟨_, _, rfl, rfl⟩, fun W => ?_⟩
 show (do pure (.value (← Instr.indexAt t (lC E x) (lC E b))) : Sem Next).run P W = _
 rw [u, q]
 have o : 0 ≤ i ∧ i < (l.length : Int) := ⟨n, by omega⟩
 simp [Instr.indexAt, asIntOf, aU s, he W, o, dT]
theorem BE (h : lR e' enc k v l R) (hk : ∀ x, (enc x).length = k) {p : Value} {i : Nat} (hp : BB R k p i) {x0 : α} (n : l[i]? = some x0) :
  ∃ g a cap, R = [(g, .cells a e' (0, 0))] ∧ v = .slice (some ⟨g, 0, none⟩) l.length cap ∧ l.length ≤ cap ∧ cap ≤ maxLen ∧ a.size = cap * k ∧ a.toList.take (l.length * k) = (l.map enc).flatten ∧ p = .pointer (some ⟨g, i * k, none⟩) ∧ ∀ j y, (enc x0)[j]? = some y → a[i * k + j]? = some y := by
 have c : i < l.length := (bG.1 n).1
 rcases h with ⟨rfl, rfl, rfl⟩ | ⟨r, cap, a, rfl, rfl, h1, s, t, d⟩
 ·simp at c
 obtain ⟨g2, o, q, rfl⟩ := hp
 cases q
 refine ⟨r, a, cap, rfl, rfl, h1, s, t, d, rfl, fun j y u => ?_⟩
 have := wK hk l i x0 n j y u
 rw [← d] at this
 have b : i * k + j < l.length * k := by
  have := (bG.1 this).1
  simp at this; omega
 rw [eJ b] at this
 simpa using this
theorem rI {A : List (Nat × Obj)} (hH : pj μ A W) (c : ∀ q, q ∈ R → q ∈ A) (h : lR e' enc k v l R) (hk : ∀ x, (enc x).length = k) {p : Value} {i : Nat} (hp : BB R k p i) {x0 : α} (j : l[i]? = some x0) {t : TypeId} (d : ∀ w, (isAgg t).run P w = .ok true w) (g : ∀ w, (sizeOf t).run P w = .ok k w) : (Instr.loadAt t p).run P W = .ok (.agg (enc x0).toArray) W := by
 obtain ⟨n, a, cap, rfl, rfl, _, _, _, _, rfl, b⟩ := BE h hk hp j
 exact CN d (enc x0) (by rw [hk]; exact g) (hH.2 _ _ (c _ (bE.2 rfl))) b
theorem Ji {A : List (Nat × Obj)} (hH : pj μ A W) (c : ∀ q, q ∈ R → q ∈ A) (h : lR e' enc k v l R) (hk : ∀ x, (enc x).length = k) {p : Value} {i : Nat} (hp : BB R k p i) {x0 : α} (g : l[i]? = some x0) {t : TypeId} {y : Value} (j : enc x0 = [y]) (d : ∀ w, (isAgg t).run P w = .ok false w) : (Instr.loadAt t p).run P W = .ok y W := by
 obtain ⟨n, a, cap, rfl, rfl, _, _, _, _, rfl, b⟩ := BE h hk hp g
 exact CK d (hH.2 _ _ (c _ (bE.2 rfl))) (b 0 y (by rw [j]; rfl))
theorem F7 (hk : ∀ x, (enc x).length = k) : ∀ (l : List α) (i : Nat) (y : α), i < l.length → ((l.set i y).map enc).flatten = (l.map enc).flatten.take (i * k) ++ enc y ++ (l.map enc).flatten.drop (i * k + k)
 | [], i, y, h => by simp at h
 | z :: l, 0, y, h => by
  simp [hk]
 | z :: l, i + 1, y, h => by
  have := F7 hk l i y (by simpa using h)
  simp only [List.set_cons_succ, bF, bJ, this]
  have h1 : (i + 1) * k = (enc z).length + i * k := by rw [hk, cO]; omega
  rw [h1, jt, fJ, List.drop_length_add_append]
  simp
theorem Ms {K : Value → World → Prop} (X : List (Nat × Obj)) {Y : List (Nat × Obj)} {t : TypeId} {x y : Operand} {p u : Value} {i : Nat} {x0 x1 : α} (c : ST dd F w W μ (X ++ (R ++ Y))) (h : lR e' enc k v l R) (hk : ∀ x, (enc x).length = k) (h1 : ∀ x, ∀ u ∈ enc x, u.oneCell' = true) (Q : lC E x = p) (T : lC E y = u) (hu : u.cells = (enc x1).toArray) (hp : BB R k p i) (A : l[i]? = some x0) (M : ∀ w, (sizeOf t).run P w = .ok k w) (L : ∀ W' R', ST dd F w W' μ (X ++ (R' ++ Y)) → lR e' enc k v (l.set i x1) R' → K undef W') : oB P E ⟨d, .store t x y, ty, pos, af, g⟩ W K := by
 have r : i < l.length := (bG.1 A).1
 obtain ⟨n, a, cap, rfl, rfl, z, I, q, J, rfl, U⟩ := BE h hk hp A
 have hle : i * k + k ≤ cap * k := by
  have : (i + 1) * k ≤ cap * k := cP _ (by omega)
  rwa [cO, kW] at this
 have j : i * k + k ≤ l.length * k := by
  have : (i + 1) * k ≤ l.length * k := cP _ (by omega)
  rwa [cO, kW] at this
 have b : u.cells.size = k := by rw [hu]; simp [hk]
 have O := (c.box n (.cells a e' (0, 0)) (by simp)).1
 have hlen : l.length * k ≤ cap * k := cP _ z
 refine .inr (.inl ⟨W.setRow n (a.toList.take (i * k) ++ (enc x1) ++ a.toList.drop (i * k + k)).toArray, ?_, L _ [(n, .cells (a.toList.take (i * k) ++ (enc x1) ++ a.toList.drop (i * k + k)).toArray e' (0, 0))] (c.store _) (.inr ⟨n, cap, _, by simp, rfl, by simpa using z, I, ?_, ?_⟩)⟩)
 ·show (do Instr.storeAt t (lC E x) (lC E y); pure .skip : Sem Next).run P W = _
  rw [Q, T]
  have := CR P (off := i * k) u (by rw [b]; exact M) (by rw [hu]; simpa using h1 x1) O (by rw [b, q]; exact hle)
  simp only [cC, this, bM, cV, b]
  rw [hu]
 ·show ((a.toList.take (i * k) ++ (enc x1) ++ a.toList.drop (i * k + k)).toArray).size = _
  have o : a.toList.length = cap * k := by simpa using q
  rw [dU, aD, aD, dK, jb, hk, o, dQ (by omega)]; omega
 ·rw [jm, F7 hk l i x1 r, ← J]
  have D : (a.toList.take (l.length * k)).take (i * k) = a.toList.take (i * k) := by rw [iP]; congr 1; omega
  have G : (a.toList.take (l.length * k)).drop (i * k + k) = (a.toList.drop (i * k + k)).take (l.length * k - (i * k + k)) := by rw [jB]
  rw [D, G]
  show List.take (l.length * k) (a.toList.take (i * k) ++ enc x1 ++ a.toList.drop (i * k + k)) = _
  have o : a.toList.length = cap * k := by simpa using q
  have s : (a.toList.take (i * k) ++ enc x1).length = i * k + k := by rw [aD, dK, hk, o, dQ (by omega)]
  rw [gH, dN (by rw [s]; exact j), s]
theorem EL (hk : ∀ x, (enc x).length = k) : ∀ (l : List α) (i : Nat), i ≤ l.length → ((l.take i).map enc).flatten = (l.map enc).flatten.take (i * k)
 | [], i, h => by simp
 | z :: l, 0, h => by simp
 | z :: l, i + 1, h => by
  have := EL hk l i (by simpa using h)
  simp only [List.take_succ_cons, bF, bJ, this]
  rw [show (i + 1) * k = (enc z).length + i * k by rw [hk, cO]; omega, jt]
theorem zf {t e : TypeId} {x ih : Operand} {F : IntKind} {i : Int} (n : P.underlying t = some (.slice e)) (he : ∀ w, (sizeOf e).run P w = .ok k w) (o : lC E x = v) (j : lC E ih = .int F i) (h : lR e' enc k v l R) (hk : ∀ x, (enc x).length = k) (s : 0 ≤ i) (D : i ≤ l.length) :
  ∃ q, lR e' enc k q (l.take i.toNat) R ∧ ∀ W, nx P E ⟨d, .slice t x none (some ih) none, ty, pos, af, g⟩ W q W := by
 have a : i.toNat ≤ l.length := by omega
 rcases h with ⟨rfl, rfl, rfl⟩ | ⟨c, cap, b, rfl, rfl, h1, u, y, z⟩
 ·have : i = 0 := by simp at D; omega
  subst this
  refine ⟨.slice none 0 0, .inl ⟨rfl, by simp, rfl⟩, fun W => ?_⟩
  show (do pure (.value (← Instr.sliceAt t (lC E x) none (some (lC E ih)) none)) : Sem Next).run P W = _
  rw [o, j]
  simp [Instr.sliceAt, Instr.slice, Instr.sliceBounds, Instr.sliceBound, asIntOf, aU n, he W]
 ·refine ⟨.slice (some ⟨c, 0, none⟩) (l.take i.toNat).length cap, .inr ⟨c, cap, b, rfl, rfl, by simp; omega, u, y, ?_⟩, fun W => ?_⟩
  ·have r : (l.take i.toNat).length = i.toNat := by rw [dK]; omega
   have hle : i.toNat * k ≤ l.length * k := cP _ a
   rw [r, EL hk l i.toNat a, ← z, iP, dQ hle]
  ·show (do pure (.value (← Instr.sliceAt t (lC E x) none (some (lC E ih)) none)) : Sem Next).run P W = _
   rw [o, j]
   have A : 0 ≤ i ∧ i ≤ (cap : Int) := ⟨s, by omega⟩
   simp [Instr.sliceAt, Instr.slice, Instr.sliceBounds, Instr.sliceBound, asIntOf, aU n, he W, A, dT]
   omega
theorem FQ {z : qp α} {t e : TypeId} {x s : Operand} {ik : IntKind} {i : Int} (Y : P.underlying t = some (.slice e)) (he : ∀ w, (sizeOf e).run P w = .ok k w) (o : lC E x = v) (O : lC E s = .int ik i) (h : Sl z k μ v l) (D : 0 ≤ i) (Q : i ≤ l.length) :
  ∃ u, (Sl z k μ u (l.drop i.toNat) ∧ ∀ B, Fr B v → Fr B u) ∧ ∀ W, nx P E ⟨d, .slice t x (some s) none none, ty, pos, af, g⟩ W u W := by
 obtain ⟨A, c, rfl, h2, h3, F⟩ := h
 have R : i.toNat ≤ l.length := by omega
 refine ⟨.slice (if c = i.toNat then A else A.map (·.add (i.toNat * k))) (l.drop i.toNat).length (c - i.toNat), ⟨⟨_, _, rfl, by simp; omega, by omega, fun hp => ?_⟩, fun B M b n => ?_⟩, fun W => ?_⟩
 ·have U : i.toNat < l.length := by simp at hp; omega
  obtain ⟨b, off, cs, T, fr, rfl, G, I⟩ := F (by omega)
  refine ⟨b, off + i.toNat * k, cs, T, fr, ?_, G, fun j x o => ?_⟩
  ·rw [aX (by omega)]; simp [dT]
  ·rw [dY] at o
   obtain ⟨ys, J, L, r⟩ := I _ x o
   refine ⟨ys, J, L, fun q y Z => ?_⟩
   have := r q y Z
   rw [cO] at this
   rw [show off + i.toNat * k + j * k + q = off + (i.toNat * k + j * k) + q by omega]
   exact this
 ·refine M b ?_
  cases A with
  | none => simp [Value.ownBlock] at n
  | some a =>
   split at n
   ·exact n
   ·obtain ⟨b', o', s'⟩ := a
    cases s' <;> simp [Value.ownBlock, Addr.add] at n ⊢ <;> split at n <;> exact n
 ·show (do pure (.value (← Instr.sliceAt t (lC E x) (some (lC E s)) none none)) : Sem Next).run P W = _
  rw [o, O]
  have n : 0 ≤ i ∧ i ≤ (l.length : Int) := ⟨D, Q⟩
  simp [Instr.sliceAt, Instr.slice, Instr.sliceBounds, Instr.sliceBound, asIntOf, aU Y, he W, n]
end
end Go.Proofs.YtklbhegeiijbjaaGreat
namespace Go.Proofs.YtklbhegeiijbjaaGreat
open Go.RowKit
variable {dd : Bool}
section
variable {α : Type} {e : TypeId} {enc : α → List Value} {k : Nat} {v : Value} {l : List α} {R : List (Nat × Obj)} {μ : lZ}
theorem lR.one (h : lR e enc k v l R) : v.oneCell' = true := by obtain ⟨A, c, rfl⟩ := h.form; rfl
theorem Sl.one {a : qp α} (h : Sl a k μ v l) : v.oneCell' = true := by obtain ⟨A, c, rfl⟩ := h.form; rfl
theorem Sl.isNil {d : qp α} {n c : Nat} (h : Sl d k μ (.slice none n c) l) : l = [] := by
 obtain ⟨A, j, h1, o, q, g⟩ := h
 cases h1
 rcases fH l.length with a | a
 ·exact eX.1 a
 ·obtain ⟨b, off, cs, T, fr, i, _⟩ := g a
  cases i
theorem lR.isNil {n c : Nat} (h : lR e enc k (.slice none n c) l R) : l = [] := by
 rcases h with ⟨h1, rfl, rfl⟩ | ⟨g, cap, a, h1, _⟩
 ·rfl
 ·cases h1
theorem ST.SL {w W : World} {μ : lZ} {L1 L2 : List (Nat × Obj)} (h : ST dd mR w W μ (L1 ++ L2)) : uY dd [] L1 w W :=
 uY.I7 h.ex (fun b o a => ⟨(h.box b o (cI _ a)).1, by
  rcases (h.box b o (cI _ a)).2.2 with h | h
  ·exact h
  ·exact h.elim⟩) (by have := h.nd; rw [cJ] at this; exact (bW.1 this).1)
theorem ST.SS {w W : World} {μ : lZ} {L0 L1 L2 : List (Nat × Obj)} (h : ST dd (keys L0) w W μ (L1 ++ L2)) : uY dd L0 L1 w W :=
 ⟨⟨h.os, h.tape, h.output, h.drawn, h.size, h.nO⟩, fun b o a => ⟨(h.box b o (cI _ a)).1, (h.box b o (cI _ a)).2.2⟩, by have := h.nd; rw [cJ] at this; exact (bW.1 this).1⟩
end
end Go.Proofs.YtklbhegeiijbjaaGreat
namespace Go.Proofs.YtklbhegeiijbjaaGreat
open Go.RowKit
variable {dd : Bool}
def mL {κ β : Type} (beq : κ → κ → Bool) (l : List (κ × β)) (k : κ) : Option β := (l.find? (fun p => beq k p.1)).map (·.2)
def pw {κ β : Type} (beq : κ → κ → Bool) (l : List (κ × β)) (k : κ) (v : β) : List (κ × β) :=
 match l.findIdx? (fun p => beq k p.1) with
 | some i => l.set i (k, v)
 | none => l ++ [(k, v)]
structure vG {κ β : Type} (kenc : κ → Value) (vf : β → Value) (l : List (κ × β)) (es : Array MapEntry) (clock : Nat) : Prop where
 FA : es.toList.map (fun e => (e.key, e.val)) = l.map (fun p => (kenc p.1, vf p.2))
 born : es.toList.Pairwise (fun a b => a.born < b.born)
 lt : ∀ e ∈ es.toList, e.born < clock
def nr {κ β : Type} (kenc : κ → Value) (vf : β → Value) (v : Value) (l : List (κ × β)) (R : List (Nat × Obj)) : Prop :=
 ∃ m es clock, v = .map (some m) ∧ R = [(m, .map es clock)] ∧ vG kenc vf l es clock
def vH {κ β : Type} (kenc : κ → Value) (vf : β → Value) (μ : lZ) (v : Value) (l : List (κ × β)) : Prop :=
 (v = .map none ∧ l = []) ∨ ∃ m es clock, v = .map (some m) ∧ μ m = some (.map es clock) ∧ vG kenc vf l es clock
theorem vH.mono {κ β : Type} {kenc : κ → Value} {vf : β → Value} {μ μ' : lZ} {v : Value} {l : List (κ × β)} (h : vH kenc vf μ v l) (c : lP μ μ') : vH kenc vf μ' v l := by
 rcases h with h | ⟨m, es, clock, h1, a, b⟩
 ·exact .inl h
 ·exact .inr ⟨m, es, clock, h1, c _ _ a, b⟩
theorem nr.at {κ β : Type} {kenc : κ → Value} {vf : β → Value} {μ : lZ} {v : Value} {l : List (κ × β)} {R : List (Nat × Obj)} (h : nr kenc vf v l R) (c : ∀ b o, (b, o) ∈ R → μ b = some o) : vH kenc vf μ v l := by
 obtain ⟨m, es, clock, rfl, rfl, a⟩ := h
 exact .inr ⟨m, es, clock, rfl, c _ _ (bE.2 rfl), a⟩
structure qf {κ : Type} (P : Program) (kt : TypeId) (kenc : κ → Value) (beq : κ → κ → Bool) : Prop where
 check : ∀ b k W, (Instr.checkKey b 10000 kt (kenc k)).run P W = .ok () W
 find : ∀ (k : κ) (l : List κ) (es : List MapEntry), es.map (·.key) = l.map kenc → ∀ W, (Instr.findKey kt (kenc k) es).run P W = .ok ((l.findIdx? (fun x => beq k x)).bind fun i => (es[i]?).map fun e => (i, e.val)) W
 eq : ∀ k x, beq k x = true → kenc x = kenc k
 bits : ∀ k, Instr.sameBits 10000 (kenc k) (kenc k) = true
section
variable {P : Program} {W : World} {κ : Type} {kt : TypeId} {kenc : κ → Value} {beq : κ → κ → Bool}
theorem Da (a : ∀ x y W, (Op.equal kt (kenc x) (kenc y)).run P W = .ok (beq x y) W) (k : κ) : ∀ (l : List κ) (es : List MapEntry) (i : Nat), es.map (·.key) = l.map kenc →
  (Instr.findAsking kt (kenc k) es i).run P W = .ok ((l.findIdx? (fun x => beq k x)).bind fun j => (es[j]?).map fun e => (i + j, e.val)) W
 | [], [], i, h => by simp [Instr.findAsking]
 | [], _ :: _, i, h => by simp at h
 | _ :: _, [], i, h => by simp at h
 | x :: l, e :: es, i, h => by
  simp only [bF, aW] at h
  obtain ⟨h1, b⟩ := h
  simp only [Instr.findAsking, cC, h1, a, bM, fU]
  cases c : beq k x with
  | true => simp
  | false =>
   simp only [aB, aK]
   rw [Da a k l es (i + 1) b]
   cases l.findIdx? (fun x => beq k x) with
   | none => rfl
   | some j => simp [fJ, Nat.add_comm 1 j]
theorem KF {kind : TypeDesc} (hk : ∀ a b, Instr.sameNow kind (.agg a) b = none) (a : Array Value) : ∀ (es : List MapEntry) (i : Nat), Instr.findNow kind (.agg a) es i = if es = [] then some none else none
 | [], i => by simp [Instr.findNow]
 | e :: es, i => by simp [Instr.findNow, hk]
theorem qf.struct {enc : κ → List Value} {i : Array Field} (q : P.underlying kt = some (.struct i)) (o : ∀ d x y W, (Op.equalIn (d + 10) kt (.agg (enc x).toArray) (.agg (enc y).toArray)).run P W = .ok (beq x y) W) (n : ∀ b k W, (Instr.checkKey b 10000 kt (.agg (enc k).toArray)).run P W = .ok () W) (he : ∀ k x, beq k x = true → x = k) (j : ∀ k, Instr.sameBits 10000 (.agg (enc k).toArray) (.agg (enc k).toArray) = true) : qf P kt (fun x => .agg (enc x).toArray) beq where
 check := n
 find := fun k l es h W => by
  have c : ∀ x y W, (Op.equal kt (.agg (enc x).toArray) (.agg (enc y).toArray)).run P W = .ok (beq x y) W := fun x y W => o 9990 x y W
  simp only [Instr.findKey, cC, aU q, bM]
  rw [KF (fun a b => by cases b <;> rfl)]
  by_cases g : es = []
  ·subst g
   have : l = [] := by simpa using h.symm
   subst this
   simp
  ·rw [aX g]
   dsimp only
   rw [show Instr.findAsking kt (.agg (enc k).toArray) es = Instr.findAsking kt (.agg (enc k).toArray) es 0 from rfl, Da c k l es 0 h]
   simp
 eq := fun k x h => by rw [he k x h]
 bits := j
theorem nD {a b : ByteArray} : mK a b = true ↔ a = b := by
 unfold mK
 rw [gG, gG]
 constructor
 ·intro h
  have h1 : a.data.toList = b.data.toList := by simpa using h
  exact ky (Array.toList_inj.1 h1)
 ·rintro rfl
  simp
theorem Et (a b : ByteArray) : (a == b) = mK a b := by
 rw [cU, nD]
 constructor
 ·intro h
  have h1 : (a.data == b.data) = true := h
  exact ky (by simpa using h1)
 ·rintro rfl
  show (a.data == a.data) = true
  simp
theorem Dh (k : ByteArray) : ∀ (l : List ByteArray) (es : List MapEntry) (i : Nat), es.map (·.key) = l.map Value.string →
  Instr.findNow .string (.string k) es i = some ((l.findIdx? (fun x => mK k x)).bind fun j => (es[j]?).map fun e => (i + j, e.val))
 | [], [], i, h => by simp [Instr.findNow]
 | [], _ :: _, i, h => by simp at h
 | _ :: _, [], i, h => by simp at h
 | x :: l, e :: es, i, h => by
  simp only [bF, aW] at h
  obtain ⟨h1, a⟩ := h
  simp only [Instr.findNow, h1, Instr.sameNow, Et, fU]
  cases b : mK k x with
  | true => simp
  | false =>
   simp only [aB, aK]
   rw [Dh k l es (i + 1) a]
   cases l.findIdx? (fun x => mK k x) with
   | none => rfl
   | some j => simp [fJ, Nat.add_comm 1 j]
theorem zy (a : P.underlying kt = some .string) (n : Nat) (b : Bool) (k : ByteArray) (W : World) : (Instr.checkKey b (n + 1) kt (.string k)).run P W = .ok () W := by
 simp [Instr.checkKey, aU a]
theorem qf.string (a : P.underlying kt = some .string) : qf P kt Value.string mK where
 check := fun b k W => zy a 9999 b k W
 find := fun k l es h W => by
  simp only [Instr.findKey, cC, aU a, bM]
  have := Dh k l es 0 h
  rw [this]
  simp
 eq := fun k x h => by rw [nD.1 h]
 bits := fun k => by simp only [Instr.sameBits]; rw [Et]; exact nD.2 rfl
variable {β : Type} {vf : β → Value} {E : Nat → Value} {d : Option Nat} {ty : TypeId} {pos : String} {af : Array Edge} {g : Option (Nat × Bool)} {F : Nat → Prop} {w : World} {μ : lZ} {L : List (Nat × Obj)}
theorem vG.keys {l : List (κ × β)} {es : Array MapEntry} {clock : Nat} (h : vG kenc vf l es clock) : es.toList.map (·.key) = (l.map (·.1)).map kenc := by
 have := aY (List.map Prod.fst) h.FA
 simpa [gW] using this
theorem vG.length {l : List (κ × β)} {es : Array MapEntry} {clock : Nat} (h : vG kenc vf l es clock) : es.size = l.length := by
 have := aY List.length h.FA
 simpa using this
theorem vG.get {l : List (κ × β)} {es : Array MapEntry} {clock : Nat} (h : vG kenc vf l es clock) (k : κ) :
  (((l.map (·.1)).findIdx? (fun x => beq k x)).bind fun i => (es.toList[i]?).map fun e => (i, e.val)) = (l.findIdx? (fun p => beq k p.1)).bind fun i => (l[i]?).map fun p => (i, vf p.2) := by
 rw [iQ]
 show ((l.findIdx? (fun p => beq k p.1)).bind _) = _
 congr 1
 funext i
 have := aY (fun q => q[i]?) h.FA
 simp only [gk] at this
 cases h1 : es.toList[i]? with
 | none => rw [h1] at this; cases a : l[i]? with
  | none => rfl
  | some p => rw [a] at this; cases this
 | some e => rw [h1] at this; cases a : l[i]? with
  | none => rw [a] at this; cases this
  | some p => rw [a] at this; simp at this; simp [this.2]
theorem vx (l : List (κ × β)) (k : κ) : mL beq l k = (l.findIdx? (fun p => beq k p.1)).bind fun i => (l[i]?).map (·.2) := by
 induction l with
 | nil => rfl
 | cons p l ih =>
  simp only [mL, fY, fU] at ih ⊢
  cases beq k p.1 with
  | true => rfl
  | false =>
   simp only [aB, aK]
   rw [ih]
   cases l.findIdx? (fun p => beq k p.1) <;> simp
theorem Jm {t e : TypeId} {m x : Operand} {q z : Value} {l : List (κ × β)} {k : κ} (K : qf P kt kenc beq) (n : P.underlying t = some (.map kt e)) (b : ∀ w, (zeroValue e).run P w = .ok z w) (hm : lC E m = q) (v : lC E x = kenc k) (s : vH kenc vf (hp W) q l) :
  nx P E ⟨d, .lookup t m x false, ty, pos, af, g⟩ W (((mL beq l k).map vf).getD z) W := by
 show (do pure (.value (← Instr.lookup t (lC E m) (lC E x) false)) : Sem Next).run P W = _
 rw [hm, v]
 rcases s with ⟨rfl, rfl⟩ | ⟨o, es, clock, rfl, u, c⟩
 ·have := K.find k [] [] rfl W
  simp [Instr.lookup, aU n, K.check, this, b W, mL]
 ·have a : W.heap[o]? = some (.map es clock) := u
  have r : (getObj o : Sem Obj).run P W = .ok (.map es clock) W := by simp [getObj, Sem.run, a]
  have h := K.find k _ _ c.keys W
  rw [c.get k] at h
  simp only [Instr.lookup, cC, aU n, bM, r, cV, K.check, h, vx]
  cases y : l.findIdx? (fun p => beq k p.1) with
  | none => simp [b W]
  | some i =>
   cases j : l[i]? with
   | none => simp [j, b W]
   | some p => simp [j]
theorem rA {l : List (κ × β)} {k : κ} {i : Nat} (h : l.findIdx? (fun p => beq k p.1) = some i) : ∃ p, l[i]? = some p ∧ beq k p.1 = true := by
 rw [fA] at h
 obtain ⟨h1, a, _⟩ := h
 exact ⟨l[i], cW h1, a⟩
theorem vG.put {l : List (κ × β)} {es : Array MapEntry} {clock : Nat} (h : vG kenc vf l es clock) (k : κ) (v : β) :
  match l.findIdx? (fun p => beq k p.1) with
  | some i => vG kenc vf (l.set i (k, v)) (es.modify i fun e => { e with key := kenc k, val := vf v }) clock
  | none => vG kenc vf (l ++ [(k, v)]) (es.push { key := kenc k, val := vf v, born := clock }) (clock + 1) := by
 cases r : l.findIdx? (fun p => beq k p.1) with
 | none =>
  refine ⟨?_, ?_, ?_⟩
  ·simp [h.FA]
  ·simp only [Array.toList_push, cX]
   exact ⟨h.born, by simp, fun a ha b o => by simp at o; subst o; exact h.lt a ha⟩
  ·intro e he
   simp at he
   rcases he with he | rfl
   ·exact Nat.lt_succ_of_lt (h.lt e (by simpa using he))
   ·exact bL _
 | some i =>
  obtain ⟨p, hp, _⟩ := rA r
  have u : i < l.length := (bG.1 hp).1
  have c : (es.modify i fun e => { e with key := kenc k, val := vf v }).toList.map (·.born) = es.toList.map (·.born) := by
   apply fN
   intro j
   simp only [gk, dR, dF]
   split
   ·cases es[j]? <;> simp
   ·rfl
  refine ⟨?_, ?_, ?_⟩
  ·apply fN
   intro j
   have g := aY (fun q => q[j]?) h.FA
   simp only [gk, dR] at g
   simp only [gk, dR, dF, fZ]
   by_cases d : i = j
   ·subst d
    simp only [aS]
    rw [aZ u]
    cases s : es[i]? with
    | none => rw [s, hp] at g; cases g
    | some e => rfl
   ·rw [aX d, aX d]; exact g
  ·have := h.born
   rw [← gX (f := fun e : MapEntry => e.born) (R := (· < ·))] at this ⊢
   rw [c]; exact this
  ·intro e he
   have : e.born ∈ es.toList.map (·.born) := by rw [← c]; exact bD.2 ⟨e, he, rfl⟩
   obtain ⟨e', n, t⟩ := bD.1 this
   rw [← t]; exact h.lt e' n
theorem zn {W : World} {r : Nat} {es : Array MapEntry} {c : Nat} (b : W.heap[r]? = some (.map es c)) (a : Obj) : (setObj r a).run P W = .ok () (ChangeMaps.setBlock W r a) := by
 simp [setObj, Sem.run, b, ChangeMaps.setBlock]
theorem ST.setBlock {A B : List (Nat × Obj)} {b : Nat} {o : Obj} (h : ST dd F w W μ (A ++ (b, o) :: B)) (c : Obj) : ST dd F w (ChangeMaps.setBlock W b c) μ (A ++ (b, c) :: B) := by
 have d := (h.box b o (by simp)).1
 have a := pb d
 refine h.put ⟨rfl, rfl, rfl, aT _, by simp [ChangeMaps.setBlock]⟩ (fun k hk => ?_) ?_
 ·simp only [ChangeMaps.setBlock]
  rw [Array.getElem?_setIfInBounds_ne (fun e => hk e.symm)]
 ·simp only [ChangeMaps.setBlock]
  rw [Array.getElem?_setIfInBounds_self_of_lt a]
theorem CG {D : Value → World → Prop} (X : List (Nat × Obj)) {Y R : List (Nat × Obj)} {t e : TypeId} {m x y : Operand} {A : Value} {l : List (κ × β)} {k : κ} {v : β} (K : qf P kt kenc beq) (J : P.underlying t = some (.map kt e)) (j : ST dd F w W μ (X ++ (R ++ Y))) (h : nr kenc vf A l R) (hm : lC E m = A) (M : lC E x = kenc k) (O : lC E y = vf v) (I : ∀ W' R', ST dd F w W' μ (X ++ (R' ++ Y)) → nr kenc vf A (pw beq l k v) R' → D undef W') : oB P E ⟨d, .mapUpdate t m x y, ty, pos, af, g⟩ W D := by
 obtain ⟨b, es, clock, rfl, rfl, s⟩ := h
 have u : W.heap[b]? = some (.map es clock) := (j.box b (.map es clock) (by simp)).1
 have G : (getObj b : Sem Obj).run P W = .ok (.map es clock) W := by simp [getObj, Sem.run, u]
 have n := K.find k _ _ s.keys W
 rw [s.get k] at n
 have a := s.put (beq := beq) k v
 have c : ∀ W', (Instr.mapUpdate t (.map (some b)) (kenc k) (vf v)).run P W = .ok () W' → (execOp (lC E) ⟨d, .mapUpdate t m x y, ty, pos, af, g⟩).run P W = .ok .skip W' := by
  intro W' L
  show (do Instr.mapUpdate t (lC E m) (lC E x) (lC E y); pure .skip : Sem Next).run P W = _
  rw [hm, M, O]
  simp [L]
 cases o : l.findIdx? (fun p => beq k p.1) with
 | none =>
  rw [o] at n a
  refine .inr (.inl ⟨ChangeMaps.setBlock W b (.map (es.push { key := kenc k, val := vf v, born := clock }) (clock + 1)), c _ ?_, I _ [(b, _)] (j.setBlock _) ⟨b, _, _, rfl, rfl, ?_⟩⟩)
  ·simp [Instr.mapUpdate, aU J, G, K.check, n, zn u]
  ·rw [pw, o]; exact a
 | some i =>
  obtain ⟨p, hp, z⟩ := rA o
  rw [o] at n a
  simp only [aA, hp, dZ] at n
  have r : ((es[i]?).map (·.key)).getD (kenc k) = kenc k := by
   have := aY (fun q => q[i]?) s.keys
   simp only [gk, hp, dZ, dR] at this
   rw [this]
   simp [K.eq k p.1 z]
  refine .inr (.inl ⟨ChangeMaps.setBlock W b (.map (es.modify i fun e => { e with key := kenc k, val := vf v }) clock), c _ ?_, I _ [(b, _)] (j.setBlock _) ⟨b, _, _, rfl, rfl, ?_⟩⟩)
  ·simp only [Instr.mapUpdate, cC, aU J, G, K.check, n, bM, r, Instr.keyThatStays, K.bits, aS, cV]
   exact zn u _
  ·rw [pw, o]; exact a
theorem Ii {b : Value → World → Prop} {t : TypeId} (kenc : κ → Value) (vf : β → Value) (a : ST dd F w W μ L) (c : ∀ W' v R, ST dd F w W' μ (R ++ L) → nr kenc vf v [] R → b v W') : oB P E ⟨d, .makeMap t none, ty, pos, af, g⟩ W b :=
 .inl ⟨.map (some W.heap.size), W.alloc (.map #[] 0), by
   show (do pure (.value (← Instr.makeMap t none)) : Sem Next).run P W = _
   simp [Instr.makeMap, newObj, Sem.run], c _ _ [(W.heap.size, .map #[] 0)] (a.alloc _) ⟨_, _, _, rfl, rfl, ⟨rfl, by simp, by simp⟩⟩⟩
end
end Go.Proofs.YtklbhegeiijbjaaGreat
namespace Go.Proofs.YtklbhegeiijbjaaGreat
open Go.RowKit
variable {dd : Bool}
open Classical in
noncomputable def EY {α β : Type} (l : List α) (f : List α → Option β) : Option β :=
 if h : ∃ r, ∀ o, o.Perm l → f o = some r then some h.choose else none
theorem GO {α β : Type} {l : List α} {f : List α → Option β} {r : β} (h : ∀ o, o.Perm l → f o = some r) : EY l f = some r := by
 have a : ∃ r, ∀ o, o.Perm l → f o = some r := ⟨r, h⟩
 unfold EY
 rw [dif_pos a]
 have h1 := a.choose_spec l (.refl l)
 rw [h l (.refl l)] at h1
 exact h1.symm
end Go.Proofs.YtklbhegeiijbjaaGreat
namespace Go.Proofs.YtklbhegeiijbjaaGreat
open Go.RowKit
variable {dd : Bool}
def RR {α β : Type} (P : Program) (fv : Value) (μ : lZ) (a : α → List Value) (b : β → Value) (pm : α → Option β) : Prop :=
 ∃ f caps, fv = .func (.func f) #[] caps ∧ (∀ args w, (callFunc f args).run P w = .ok (.enter f args) w) ∧ ∀ W x r, lP μ (hp W) → pm x = some r → lV true P f (a x ++ caps.toList) W (b r)
def yS {α β : Type} (P : Program) (fv : Value) (μ : lZ) (a : α → List Value) (b : β → Value) (pm : α → Option β) : Prop :=
 ∃ f first caps, fv = .func (.func f) first caps ∧ (∀ args w, (callFunc f args).run P w = .ok (.enter f args) w) ∧ ∀ W x r, lP μ (hp W) → pm x = some r → lV false P f (first.toList ++ (a x ++ caps.toList)) W (b r)
theorem yS.form {α β : Type} {P : Program} {fv : Value} {μ : lZ} {c : α → List Value} {d : β → Value} {pm : α → Option β} (h : yS P fv μ c d pm) : ∃ f a b, fv = .func f a b := let ⟨f, a, b, h, _⟩ := h; ⟨_, a, b, h⟩
section
variable {P : Program} {W : World} {E : Nat → Value} {d : Option Nat} {ty : TypeId} {pos : String} {af : Array Edge} {g : Option (Nat × Bool)} {F : Nat → Prop} {w : World} {μ μ0 : lZ} {L : List (Nat × Obj)}
theorem yS.mono {α β : Type} {fv : Value} {a : α → List Value} {b : β → Value} {pm : α → Option β} (h : yS P fv μ a b pm) (g : lP μ μ0) : yS P fv μ0 a b pm := by
 obtain ⟨f, first, caps, h1, c, d⟩ := h
 exact ⟨f, first, caps, h1, c, fun W x r h => d W x r (g.trans h)⟩
theorem Ks {α β : Type} {K : Value → World → Prop} {fv : Value} {b : α → List Value} {j : β → Value} {pm : α → Option β} {c : Operand} {ax : Array Operand} {ats : Array TypeId} (x : α) {r : β} (a : ST false F w W μ L) (q : yS P fv μ0 b j pm) (t : lP μ0 μ) (s : lC E c = fv) (ha : ax.map (lC E) ++ (#[] : Array Value) = (b x).toArray) (hm : pm x = some r) (h : ∀ W', ST false F w W' μ L → K (j r) W') : oB P E ⟨d, .call ⟨.value c, ax, ats⟩, ty, pos, af, g⟩ W K := by
 obtain ⟨f, first, caps, rfl, k, l⟩ := q
 have i : ax.map (lC E) = (b x).toArray := by simpa using ha
 refine .inr (.inr ⟨f, (first.toList ++ (b x ++ caps.toList)).toArray, ?_, dJ (l W x r (t.trans a.lx) hm) (fun _ _ ⟨n, o⟩ => ⟨_, n, h _ (a.Fm o)⟩)⟩)
 show (do let d ← resolve (lC E) ⟨.value c, ax, ats⟩ ty; invoke d.target d.args : Sem Next).run P W = _
 simp only [resolve, s, Deferred.ofValue, cC, cV, bM, invoke, i, k]
 congr 2
 simp
end
end Go.Proofs.YtklbhegeiijbjaaGreat
namespace Go.Proofs.YtklbhegeiijbjaaGreat
open Go.RowKit
variable {dd : Bool}
def Ba (A : List (Nat × Obj)) : lZ := fun b => (A.find? (fun p => p.1 == b)).map (·.2)
theorem nG {A : List (Nat × Obj)} {W : World} (h : ∀ b o, (b, o) ∈ A → W.heap[b]? = some o) : ∀ b o, Ba A b = some o → W.heap[b]? = some o := fun b o a => by
 unfold Ba at a
 cases c : A.find? (fun p => p.1 == b) with
 | none => rw [c] at a; cases a
 | some p =>
  rw [c] at a
  cases a
  have h1 := iy c
  have d := kT c
  simp at d
  subst d
  exact h _ _ h1
theorem At.of {M : lZ} {b : Nat} {cs : Array Value} {T : TypeId} {fr : Nat × Nat} (h : M b = some (.cells cs T fr)) (ys : List Value) (c : cs.toList = ys) : At M (.pointer (some ⟨b, 0, none⟩)) ys :=
 ⟨b, 0, cs, T, fr, rfl, h, fun j y a => by subst c; simpa using a⟩
section
variable {F : Nat → Prop} {w W W' : World} {μ μ' : lZ} {L L0 L1 L2 : List (Nat × Obj)}
theorem ST.LG (h : ST dd F w W μ L) (a : L.Perm (L0 ++ L2)) : ∀ b o, (b, o) ∈ L2 → vv W L0 b = some o := fun b o c => by
 have h1 := (h.perm a).at_ (eH _ c)
 unfold vv
 rw [aX (Fl (h.perm a).nd c)]
 exact h1
theorem ST.held (h : ST dd F w W μ L) (a : L.Perm (L0 ++ L2)) : EX L0 W := fun b o c => ((h.perm a).box b o (cI _ c)).1
theorem ST.Rr (h : ST dd F w W μ L) (a : L.Perm (L0 ++ L2)) : (L0.map (·.1)).Nodup := by
 have := (h.perm a).nd
 rw [cJ] at this
 exact (bW.1 this).1
theorem ST.Sd (h : ST dd F w W μ L) (a : L.Perm (L0 ++ L2)) : lP μ (vv W L0) := (h.perm a).mE (fun _ hp => cI _ hp)
end
section
variable {P : Program} {E : Nat → Value} {W : World} {d : Option Nat} {ty : TypeId} {pos : String} {af : Array Edge} {g : Option (Nat × Bool)}
 {F : Nat → Prop} {w : World} {μ : lZ} {L : List (Nat × Obj)}
theorem Qj {K : Value → World → Prop} {K' : Value → List (Nat × Obj) → World → Prop} {f : FuncId} {fv : Operand} {ax : Array Operand} {ats : Array TypeId} {caps : Array Value} {args : List Value} (L0 L2 : List (Nat × Obj)) (a : ST dd F w W μ L) (c : L.Perm (L0 ++ L2)) (n : lC E fv = .func (.func f) #[] caps) (he : ∀ args w, (callFunc f args).run P w = .ok (.enter f args) w) (ha : ax.map (lC E) ++ (#[] : Array Value) = args.toArray) (l : EX L0 W → (L0.map (·.1)).Nodup → lP μ (vv W L0) → (∀ b o, (b, o) ∈ L2 → vv W L0 b = some o) → nl dd P f (args ++ caps.toList) W L0 K') (h : ∀ W' v μ' L1, ST dd F w W' μ' (L1 ++ L2) → lP μ μ' → Lo F w μ μ' → (∀ b, W.heap.size ≤ b → ∀ o, vv W' L1 b = some o → μ' b = some o) → K' v L1 W' → K v W') : oB P E ⟨d, .call ⟨.value fv, ax, ats⟩, ty, pos, af, g⟩ W K := by
 have i : ax.map (lC E) = args.toArray := by simpa using ha
 refine CX (args := (args ++ caps.toList).toArray) n he (by rw [i]; simp) (dJ (l (a.held c) (a.Rr c) (a.Sd c) (a.LG c)) (fun _ W' ⟨v, L1, h1, j, k⟩ => ⟨v, h1, h W' v _ L1 ((a.perm c).back j) ((a.perm c).Ik W' L1) ((a.perm c).Kc W' L1) ?_ k⟩))
 intro b r o q
 unfold Cq
 rw [aX (by omega)]
 exact q
theorem Qy {K : Value → World → Prop} {f : FuncId} {fv : Operand} {ax : Array Operand} {ats : Array TypeId} {caps : Array Value} {args : List Value} {v : Value} (a : ST dd F w W μ L) (k : lC E fv = .func (.func f) #[] caps) (he : ∀ args w, (callFunc f args).run P w = .ok (.enter f args) w) (ha : ax.map (lC E) ++ (#[] : Array Value) = args.toArray) (j : lV dd P f (args ++ caps.toList) W v) (h : ∀ W', ST dd F w W' μ L → K v W') : oB P E ⟨d, .call ⟨.value fv, ax, ats⟩, ty, pos, af, g⟩ W K := by
 have b : ax.map (lC E) = args.toArray := by simpa using ha
 exact CX (args := (args ++ caps.toList).toArray) k he (by rw [b]; simp) (dJ j (fun _ _ ⟨c, i⟩ => ⟨_, c, h _ (a.Fm i)⟩))
theorem Sl.lift {α : Type} {enc : α → List Value} {k : Nat} {M μ' : lZ} {B : Nat} {v : Value} {l : List α} (h : Sl (Pl enc) k M v l) (r : Fr B v) (q : ∀ b, B ≤ b → ∀ o, M b = some o → μ' b = some o) : Sl (Pl enc) k μ' v l := by
 obtain ⟨A, c, h1, d, g, i⟩ := h
 refine ⟨A, c, h1, d, g, fun s => ?_⟩
 obtain ⟨b, off, cs, T, fr, a, j, n⟩ := i s
 exact ⟨b, off, cs, T, fr, a, q b (r b (by rw [h1, a]; rfl)) _ j, n⟩
theorem Gb {t : TypeId} (dd : Nat) {s u : Array TypeId} {b : Bool} (d : P.underlying t = some (.func s u b)) (f : Fn) (a c : Array Value) (W : World) : (Op.equalIn (dd + 1) t (.func f a c) .nilFunc).run P W = .ok false W := by
 simp [Op.equalIn, aU d]
end
def ye {κ β : Type} (beq : κ → κ → Bool) (l : List (κ × β)) (k : κ) (z : β) : β := (mL beq l k).getD z
section
variable {P : Program} {W : World} {κ β : Type} {kt : TypeId} {kenc : κ → Value} {beq : κ → κ → Bool} {vf : β → Value} {E : Nat → Value} {d : Option Nat} {ty : TypeId} {pos : String} {af : Array Edge} {g : Option (Nat × Bool)} {F : Nat → Prop} {w : World} {μ : lZ} {L R : List (Nat × Obj)} {v : Value} {left : List (κ × β)}
theorem AK {t e : TypeId} {m x : Operand} {a : Value} {l : List (κ × β)} {k : κ} {z : β} (K : qf P kt kenc beq) (c : P.underlying t = some (.map kt e)) (j : ∀ w, (zeroValue e).run P w = .ok (vf z) w) (hm : lC E m = a) (i : lC E x = kenc k) (b : vH kenc vf (hp W) a l) :
  nx P E ⟨d, .lookup t m x false, ty, pos, af, g⟩ W (vf (ye beq l k z)) W := by
 have := Jm (d := d) (ty := ty) (pos := pos) (af := af) (g := g) K c j hm i b
 rw [ye]
 cases h : mL beq l k with
 | none => rw [h] at this; exact this
 | some y => rw [h] at this; exact this
theorem Mb {t e : TypeId} {m x : Operand} {q : Value} {l : List (κ × β)} {k : κ} {z : β} (K : qf P kt kenc beq) (n : P.underlying t = some (.map kt e)) (b : ∀ w, (zeroValue e).run P w = .ok (vf z) w) (hm : lC E m = q) (v : lC E x = kenc k) (s : vH kenc vf (hp W) q l) :
  nx P E ⟨d, .lookup t m x true, ty, pos, af, g⟩ W (.tuple #[vf (ye beq l k z), .bool (mL beq l k).isSome]) W := by
 show (do pure (.value (← Instr.lookup t (lC E m) (lC E x) true)) : Sem Next).run P W = _
 rw [hm, v]
 rcases s with ⟨rfl, rfl⟩ | ⟨o, es, clock, rfl, u, c⟩
 ·have := K.find k [] [] rfl W
  simp [Instr.lookup, aU n, K.check, this, b W, mL, ye]
 ·have a : W.heap[o]? = some (.map es clock) := u
  have r : (getObj o : Sem Obj).run P W = .ok (.map es clock) W := by simp [getObj, Sem.run, a]
  have h := K.find k _ _ c.keys W
  rw [c.get k] at h
  simp only [Instr.lookup, cC, aU n, bM, r, cV, K.check, h, ye, vx]
  cases y : l.findIdx? (fun p => beq k p.1) with
  | none => simp [b W]
  | some i =>
   cases j : l[i]? with
   | none => simp [j, b W]
   | some p => simp [j]
theorem nr.one {a : Value} {l : List (κ × β)} (h : nr kenc vf a l R) : a.oneCell' = true := by obtain ⟨m, es, clock, rfl, _⟩ := h; rfl
theorem nr.form {a : Value} {l : List (κ × β)} (h : nr kenc vf a l R) : ∃ m, a = .map (some m) := by obtain ⟨m, es, clock, rfl, _⟩ := h; exact ⟨m, rfl⟩
theorem nr.nd {a : Value} {l : List (κ × β)} (h : nr kenc vf a l R) : (R.map (·.1)).Nodup := by obtain ⟨m, es, clock, rfl, rfl, _⟩ := h; simp
theorem nr.Q4 {a : Value} {l : List (κ × β)} (h : nr kenc vf a l R) : vH kenc vf (Ba R) a l := by
 obtain ⟨m, es, clock, rfl, rfl, b⟩ := h
 exact .inr ⟨m, es, clock, rfl, by simp [Ba], b⟩
end
def oZ {α : Type} (l : List α) (i : Nat) (z : α) : List α := l.take i ++ List.replicate (l.length - i) z
theorem wX {α : Type} (l : List α) (i : Nat) (z : α) (h : i ≤ l.length) : (oZ l i z).length = l.length := by simp [oZ]; omega
theorem F4 {α : Type} (l : List α) (i : Nat) (z : α) (h : i ≤ l.length) : (oZ l i z).take i = l.take i := by
 simp only [oZ]
 rw [gH, dN (by simp; omega)]
 simp; omega
end Go.Proofs.YtklbhegeiijbjaaGreat
namespace Go.Proofs.YtklbhegeiijbjaaGreat
open Go.RowKit
theorem IG {P : Program} {cs : Array Value} {b : Bool} {n : Nat} {W : World} : ∀ (l : List Field),
  (∀ f ∈ l, f.name ≠ "_" → ∃ v, (part f.type cs f.offset).run P W = .ok v W ∧ (Instr.checkKey b n f.type v).run P W = .ok () W) →
  ((forIn l PUnit.unit fun f (_ : PUnit) => do
   if f.name ≠ "_" then Instr.checkKey b n f.type (← part f.type cs f.offset)
   pure (ForInStep.yield PUnit.unit)) : Sem PUnit).run P W = .ok PUnit.unit W
 | [], _ => by simp
 | f :: l, h => by
  have ih := IG l (fun f d => h f (gm _ d))
  simp only [List.forIn_cons, cC]
  by_cases a : f.name ≠ "_"
  ·obtain ⟨v, h1, c⟩ := h f (by simp) a
   simp only [aZ a, cC, h1, bM, c, cV]
   exact ih
  ·simp only [aX a, cC, cV, bM]
   exact ih
theorem Hl {P : Program} {kt : TypeId} {a : Array Field} {l : List Field} {cs : Array Value} {b : Bool} {n : Nat} {W : World} (d : P.underlying kt = some (.struct a)) (c : a.toList = l) (h : ∀ f ∈ l, f.name ≠ "_" → ∃ v, (part f.type cs f.offset).run P W = .ok v W ∧ (Instr.checkKey b n f.type v).run P W = .ok () W) : (Instr.checkKey b (n + 1) kt (.agg cs)).run P W = .ok () W := by
 obtain ⟨a⟩ := a
 subst c
 simp only [Instr.checkKey, cC, aU d, bM, List.forIn_toArray]
 have := IG (P := P) (cs := cs) (b := b) (n := n) (W := W) a h
 simp only [cC] at this
 first | rw [this]; rfl | simpa using this
variable {dd : Bool}
def rO (b : Bool) : Option Unit := if b = true then some () else none
theorem Ge {b : Bool} {u : Unit} (h : rO b = some u) : b = true := by
 unfold rO at h; split at h
 ·assumption
 ·cases h
theorem uw {a c : Int} {u : Unit} (h : rO (decide (0 ≤ a) && decide (a ≤ c)) = some u) : 0 ≤ a := by have := Ge h; simp at this; exact this.1
theorem um {a c : Int} {u : Unit} (h : rO (decide (0 ≤ a) && decide (a ≤ c)) = some u) : a ≤ c := by have := Ge h; simp at this; exact this.2
def Bs (k : Nat) (v : Value) (i : Nat) (u : Value) : Prop := ∃ A n c A' a, v = .slice A n c ∧ u = .slice A' (n - i) a ∧ i ≤ n ∧ (i < n → ∃ b o, A = some ⟨b, o, none⟩ ∧ A' = some ⟨b, o + i * k, none⟩)
section
variable {P : Program} {E : Nat → Value} {W : World} {d : Option Nat} {ty : TypeId} {pos : String} {af : Array Edge} {g : Option (Nat × Bool)}
 {F : Nat → Prop} {w : World} {μ : lZ} {L : List (Nat × Obj)} {α : Type} {e' : TypeId} {enc : α → List Value} {k : Nat} {v : Value} {l : List α} {R : List (Nat × Obj)}
theorem vz {t e : TypeId} {x a : Operand} {z : IntKind} {i : Int} (n : P.underlying t = some (.slice e)) (he : ∀ w, (sizeOf e).run P w = .ok k w) (o : lC E x = v) (c : lC E a = .int z i) (h : lR e' enc k v l R) (r : 0 ≤ i) (j : i ≤ l.length) :
  ∃ u, Bs k v i.toNat u ∧ ∀ W, nx P E ⟨d, .slice t x (some a) none none, ty, pos, af, g⟩ W u W := by
 rcases h with ⟨rfl, rfl, rfl⟩ | ⟨b, cap, q, rfl, rfl, h1, A, D, F⟩
 ·have : i = 0 := by simp at j; omega
  subst this
  refine ⟨.slice none 0 0, ⟨none, 0, 0, none, 0, rfl, rfl, aT _, fun h => absurd h (by simp)⟩, fun W => ?_⟩
  show (do pure (.value (← Instr.sliceAt t (lC E x) (some (lC E a)) none none)) : Sem Next).run P W = _
  rw [o, c]
  simp [Instr.sliceAt, Instr.slice, Instr.sliceBounds, Instr.sliceBound, asIntOf, aU n, he W]
 ·refine ⟨.slice (some (if cap = i.toNat then ⟨b, 0, none⟩ else (Addr.add ⟨b, 0, none⟩ (i.toNat * k)))) (l.length - i.toNat) (cap - i.toNat), ⟨_, _, _, _, _, rfl, rfl, by omega, fun y => ⟨b, 0, rfl, ?_⟩⟩, fun W => ?_⟩
  ·rw [aX (by omega)]; simp [dT]
  ·show (do pure (.value (← Instr.sliceAt t (lC E x) (some (lC E a)) none none)) : Sem Next).run P W = _
   rw [o, c]
   have s : 0 ≤ i ∧ i ≤ (l.length : Int) := ⟨r, j⟩
   simp [Instr.sliceAt, Instr.slice, Instr.sliceBounds, Instr.sliceBound, asIntOf, aU n, he W, s]
   split <;> rfl
theorem xJ {i j : Nat} {x0 : α} (h : (l.drop i)[j]? = some x0) : l[i + j]? = some x0 := by rwa [dY] at h
theorem EA {t e : TypeId} {x : Operand} {u : Value} {i : Nat} (j : P.underlying t = some (.slice e)) (o : lC E x = u) (hu : Bs k v i u) (h : lR e' enc k v l R) : nx P E ⟨d, .call ⟨.builtin .len, #[x], #[t]⟩, ty, pos, af, g⟩ W (.int .i64 ((l.length - i : Nat) : Int)) W := by
 obtain ⟨A, n, c, A', q, h1, b, s, _⟩ := hu
 subst b
 have : n = l.length := by
  rcases h with ⟨rfl, rfl, rfl⟩ | ⟨r, cap, a, rfl, rfl, _⟩
  ·cases h1; rfl
  ·cases h1; rfl
 subst this
 exact As j o
theorem vB {t e : TypeId} {x q : Operand} {O : IntKind} {i : Int} {x0 : α} {u : Value} {o : Nat} (L : P.underlying t = some (.slice e)) (he : ∀ w, (sizeOf e).run P w = .ok k w) (M : lC E x = u) (I : lC E q = .int O i) (h : lR e' enc k v l R) (hu : Bs k v o u) (D : 0 ≤ i) (J : (l.drop o)[i.toNat]? = some x0) :
  ∃ p, BB R k p (o + i.toNat) ∧ ∀ W, nx P E ⟨d, .indexAddr t x q, ty, pos, af, g⟩ W p W := by
 have a := xJ J
 have j : o + i.toNat < l.length := (bG.1 a).1
 rcases h with ⟨rfl, rfl, rfl⟩ | ⟨z, cap, r, rfl, rfl, h1, T, U, Y⟩
 ·simp at j
 obtain ⟨A, n, c, A', Q, s, rfl, Z, F⟩ := hu
 cases s
 obtain ⟨b, oo, y, rfl⟩ := F (by omega)
 cases y
 refine ⟨.pointer (some ⟨z, (o + i.toNat) * k, none⟩), ⟨_, _, rfl, rfl⟩, fun W => ?_⟩
 show (do pure (.value (← Instr.indexAt t (lC E x) (lC E q))) : Sem Next).run P W = _
 rw [M, I]
 have G : 0 ≤ i ∧ i < ((l.length - o : Nat) : Int) := ⟨D, by omega⟩
 simp [Instr.indexAt, asIntOf, aU L, he W, G, dT, cO]
theorem CY (ys : List Value) (m : Nat) : (Builtin.zeroCells ys.toArray m).toList = (List.replicate m ys).flatten := by
 unfold Builtin.zeroCells
 simp only [Array.toList_map, Array.toList_range, dU]
 rcases fH ys.length with a | a
 ·have : ys = [] := eX.1 a
  subst this
  simp
 apply fN
 intro q
 by_cases c : q < m * ys.length
 ·have h1 : q / ys.length < m := (iY a).2 c
  have b : q % ys.length < ys.length := Nat.mod_lt _ a
  have := wK (enc := fun _ : Unit => ys) (fun _ => rfl) (List.replicate m ()) (q / ys.length) () (by simp [h1]) (q % ys.length) ys[q % ys.length] (by simp [b])
  rw [Nat.div_add_mod' q ys.length] at this
  rw [jC] at this
  rw [this]
  simp [c, b]
 ·rw [gU (by simp; omega), gU (by simp; omega)]
theorem KS {K : Value → World → Prop} (z : α) (X : List (Nat × Obj)) {Y : List (Nat × Obj)} {t e : TypeId} {x : Operand} {u Z : Value} {i : Nat} (q : ST dd F w W μ (X ++ (R ++ Y))) (h : lR e' enc k v l R) (hk : ∀ x, (enc x).length = k) (h1 : ∀ x, ∀ u ∈ enc x, u.oneCell' = true) (O : P.underlying t = some (.slice e)) (hz : ∀ w, (zeroValue e).run P w = .ok Z w) (hu : Bs k v i u) (hc : Z.cells = (enc z).toArray) (hx : lC E x = u) (L : ∀ W' R', ST dd F w W' μ (X ++ (R' ++ Y)) → lR e' enc k v (oZ l i z) R' → K (.tuple #[]) W') : oB P E ⟨d, .call ⟨.builtin .clear, #[x], #[t]⟩, ty, pos, af, g⟩ W K := by
 have j : ∀ (W' : World), (Builtin.clear_ #[t] ty #[u]).run P W = .ok (.tuple #[]) W' → (execOp (lC E) ⟨d, .call ⟨.builtin .clear, #[x], #[t]⟩, ty, pos, af, g⟩).run P W = .ok (.value (.tuple #[])) W' := by
  intro W' hV
  show (do let d ← resolve (lC E) ⟨.builtin .clear, #[x], #[t]⟩ ty; invoke d.target d.args : Sem Next).run P W = _
  simp [resolve, invoke, builtin, hx, hV]
 obtain ⟨A, n, c, A', c', e1, rfl, D, h8⟩ := hu
 rcases h with ⟨rfl, rfl, rfl⟩ | ⟨s, cap, a, rfl, rfl, U, q2, I, q4⟩
 ·cases e1
  refine .inl ⟨_, W, j W ?_, L W [] q (by simpa [oZ] using lR.nil e' enc k)⟩
  simp only [Builtin.clear_, Nat.zero_sub]
  cases A' <;> simp [aU O]
 ·cases e1
  by_cases hi : i < l.length
  ·obtain ⟨b, o, e2, rfl⟩ := h8 hi
   cases e2
   have T : ∀ m, (Builtin.zeroCells Z.cells m).toList = (List.replicate m (enc z)).flatten := by
    intro m
    rw [hc]; exact CY _ _
   have hb := (q.box s (.cells a e' (0, 0)) (by simp)).1
   have hle : i * k + (l.length - i) * k = l.length * k := by rw [← cO]; congr 1; omega
   have hlen : l.length * k ≤ c * k := cP _ U
   have r : ((List.replicate (l.length - i) (enc z)).flatten).length = (l.length - i) * k := by simp [hk]
   have y : ∀ v ∈ (List.replicate (l.length - i) (enc z)).flatten, v.oneCell' = true := by
    intro v G
    obtain ⟨ys, Q, G⟩ := kC.1 G
    rw [(List.mem_replicate.1 Q).2] at G
    exact h1 z v G
   have hs := jW (P := P) s (i * k) e' ((List.replicate (l.length - i) (enc z)).flatten) 0 a W hb (by rw [r, I]; omega) y
   rw [kL, r, hle] at hs
   refine .inl ⟨_, W.setRow s (a.toList.take (i * k) ++ (List.replicate (l.length - i) (enc z)).flatten ++ a.toList.drop (l.length * k)).toArray, j _ ?_, L _ [(s, .cells (a.toList.take (i * k) ++ (List.replicate (l.length - i) (enc z)).flatten ++ a.toList.drop (l.length * k)).toArray e' (0, 0))] (q.store _) (.inr ⟨s, c, _, by rw [wX _ _ _ D], rfl, by rw [wX _ _ _ D]; exact U, q2, ?_, ?_⟩)⟩
   ·have hn : l.length - i = (l.length - i - 1) + 1 := by omega
    simp only [Builtin.clear_]
    rw [hn]
    simp only [aU O, cC, bM, List.getElem?_toArray, iL, hz, gp]
    rw [← hn, T, hs]
    simp
   ·have J : a.toList.length = c * k := by simpa using I
    rw [dU, aD, aD, dK, jb, r, J, dQ (by omega)]
    omega
   ·rw [wX _ _ _ D, oZ, cJ, cR, EL hk l i D, ← q4, iP, dQ (by omega), jC]
    have J : a.toList.length = c * k := by simpa using I
    have e3 : (a.toList.take (i * k) ++ (List.replicate (l.length - i) (enc z)).flatten).length = l.length * k := by rw [aD, dK, r, J, dQ (by omega)]; omega
    show List.take (l.length * k) (a.toList.take (i * k) ++ (List.replicate (l.length - i) (enc z)).flatten ++ a.toList.drop (l.length * k)) = _
    rw [gH, dN (by rw [e3]; exact aT _), e3, Nat.sub_self]
    simp
  ·have M : i = l.length := by omega
   subst M
   refine .inl ⟨_, W, j W ?_, L W _ q ?_⟩
   ·simp only [Builtin.clear_, Nat.sub_self]
    cases A' <;> simp [aU O]
   ·simp only [oZ, List.take_length, Nat.sub_self, List.replicate_zero, bV]
    exact .inr ⟨s, c, a, rfl, rfl, U, q2, I, q4⟩
end
end Go.Proofs.YtklbhegeiijbjaaGreat
namespace Go.Proofs.YtklbhegeiijbjaaGreat
open Go.RowKit
variable {dd : Bool}
section
variable {P : Program} {E : Nat → Value} {W : World} {d : Option Nat} {ty : TypeId} {pos : String} {af : Array Edge} {g : Option (Nat × Bool)}
 {F : Nat → Prop} {w : World} {μ : lZ} {L : List (Nat × Obj)}
theorem MD {K : Value → World → Prop} {f : FuncId} {fv : Operand} {ax : Array Operand} {ats : Array TypeId} {args : List Value} {v : Value} (b : lC E fv = .func (.func f) #[] #[]) (ha : ax.map (lC E) ++ (#[] : Array Value) = args.toArray) (c : (callFunc f args.toArray).run P W = .ok (.value v) W) (h : K v W) : oB P E ⟨d, .call ⟨.value fv, ax, ats⟩, ty, pos, af, g⟩ W K := by
 have a : ax.map (lC E) = args.toArray := by simpa using ha
 refine .inl ⟨v, W, ?_, h⟩
 show (do let d ← resolve (lC E) ⟨.value fv, ax, ats⟩ ty; invoke d.target d.args : Sem Next).run P W = _
 simp only [resolve, b, Deferred.ofValue, cC, cV, bM, invoke]
 rw [a]
 simpa using c
def yi (s : ByteArray) (c : Int) : Int := Lib.indexByte s.data.toList c.toNat.toUInt8
def qx (a b : ByteArray) : Int := Lib.compareBytes a.data.toList b.data.toList
def wc (l : List Int) : List UInt8 := l.map fun x => x.toNat.toUInt8
def zb (a b : List Int) : Int := Lib.compareBytes (wc a) (wc b)
theorem HJ {f : FuncId} {fn : Func} (d : P.funcs[f]? = some fn) (a : (fn.name == "runtime.NumGoroutine") = false) (b : fn.body.isNone = true) (g : Extern.findNext fn = none) (he : Extern.find fn = some Extern.BytealgIndexByte.indexByte) (s : ByteArray) (c : Int) (w : World) :
  (callFunc f [Value.string s, .int .u8 c].toArray).run P w = .ok (.value (.int .i64 (yi s c))) w := by
 rw [jq d a b g he]
 rw [Lib.run_indexByteString]
 rfl
theorem Oi {f : FuncId} {fn : Func} (g : P.funcs[f]? = some fn) (c : (fn.name == "runtime.NumGoroutine") = false) (d : fn.body.isNone = true) (h : Extern.findNext fn = none) (he : Extern.find fn = some Extern.BytealgCompare.compare) (a b : ByteArray) (w : World) :
  (callFunc f [Value.string a, .string b].toArray).run P w = .ok (.value (.int .i64 (qx a b))) w := by
 rw [jq g c d h he]
 rw [Lib.run_compareString]
 rfl
theorem Ec {v : Value} {l : List Int} (h : Sl (Pl (mj .u8)) 1 (hp W) v l) : (Extern.Bytes.bytesOf v).run P W = .ok ⟨(wc l).toArray⟩ W := by
 obtain ⟨A, c, rfl, q, r, i⟩ := h
 rcases fH l.length with a | a
 ·have : l = [] := eX.1 a
  subst this
  cases A <;> simp [Extern.Bytes.bytesOf, Extern.Bytes.loadBytes, wc] <;> rfl
 ·obtain ⟨b, off, cs, T, fr, rfl, k, n⟩ := i a
  have := Lib.run_loadBytesX (P := P) W l ⟨b, off, none⟩ .empty (fun j x o => by
   obtain ⟨ys, _, g, d⟩ := n j x o
   cases g
   rw [dT, iK W b (off + j) cs T fr k]
   have := d 0 (.int .u8 x) rfl
   simpa using this)
  simp only [Extern.Bytes.bytesOf]
  rw [this]
  congr 1
  apply ky
  show (#[] : Array UInt8) ++ _ = _
  simp [Lib.bytesOf, wc]
theorem OX {f : FuncId} {fn : Func} (j : P.funcs[f]? = some fn) (c : (fn.name == "runtime.NumGoroutine") = false) (i : fn.body.isNone = true) (k : Extern.findNext fn = none) (he : Extern.find fn = some Extern.BytealgCompare.compare) {d g : Value} {a b : List Int} (h1 : Sl (Pl (mj .u8)) 1 (hp W) d a) (h : Sl (Pl (mj .u8)) 1 (hp W) g b) :
  (callFunc f [d, g].toArray).run P W = .ok (.value (.int .i64 (zb a b))) W := by
 rw [jq j c i k he]
 have : (Extern.BytealgCompare.compare [d, g].toArray).run P W = .ok (.int .i64 (zb a b)) W := by
  change Sem.run P (do pure (goInt (Extern.BytealgCompare.cmp (← Extern.Bytes.bytesOf d) (← Extern.Bytes.bytesOf g)))) W = _
  simp only [cC, Ec h1, Ec h, cV, Result.andThen]
  rw [Lib.cmp_eq]
  rfl
 rw [this]
 rfl
theorem tw {fn : Fn} {caps : Array Operand} {cs : List Value} {v : Value} (a : caps.map (lC E) ++ (#[] : Array Value) = cs.toArray) (b : .func fn #[] cs.toArray = v) : nx P E ⟨d, .makeFunc fn #[] caps, ty, pos, af, g⟩ W v W := by
 have : caps.map (lC E) = cs.toArray := by simpa using a
 exact Mf (by rw [this]; simpa using b)
theorem nl.mono {f : FuncId} {args : List Value} {L0 : List (Nat × Obj)} {K K' : Value → List (Nat × Obj) → World → Prop} (h : nl dd P f args w L0 K) (hk : ∀ v L1 W', K v L1 W' → K' v L1 W') : nl dd P f args w L0 K' :=
 dJ h (fun _ _ ⟨v, L1, h1, a, b⟩ => ⟨v, L1, h1, a, hk _ _ _ b⟩)
end
section
variable {α : Type}
def vg (cf : α × α → Option Int) (x y : α) : Bool := match cf (x, y) with
 | some c => decide (c < 0)
 | none => false
structure EK (cf : α × α → Option Int) (l : List α) : Prop where
 is : ∀ x ∈ l, ∀ y ∈ l, ∃ c, cf (x, y) = some c
 irrefl : ∀ x ∈ l, vg cf x x = false
 trans : ∀ x ∈ l, ∀ y ∈ l, ∀ z ∈ l, vg cf x y = true → vg cf y z = true → vg cf x z = true
 total : ∀ x ∈ l, ∀ y ∈ l, vg cf x y = false → vg cf y x = false → x = y
 short : l.length < 4611686018427387904
def uF (cf : α × α → Option Int) (l : List α) : List α := l.mergeSort fun x y => !vg cf y x
open Classical in
noncomputable def yL (cf : α × α → Option Int) (l : List α) : Option (List α) := if EK cf l then some (uF cf l) else none
theorem Hz {cf : α × α → Option Int} {l r : List α} (h : yL cf l = some r) : EK cf l ∧ r = uF cf l := by
 unfold yL at h
 split at h
 ·rename_i a; cases h; exact ⟨a, rfl⟩
 ·cases h
theorem Pc {cf : α × α → Option Int} {l : List α} (h : EK cf l) : yL cf l = some (uF cf l) := by
 unfold yL; rw [aZ h]
def vW (l : List ByteArray) : List ByteArray := l.mergeSort fun x y => !sa y x
end
end Go.Proofs.YtklbhegeiijbjaaGreat
namespace Go.Proofs.YtklbhegeiijbjaaGreat
open Go.RowKit
variable {dd : Bool}
def xP {κ γ : Type} (Q : Value → γ → List (Nat × Obj) → Prop) : List (κ × Value) → List (κ × γ) → List (Nat × Obj) → Prop
 | [], [], R => R = []
 | p :: a, q :: l, R => p.1 = q.1 ∧ ∃ R1 R2, R = R1 ++ R2 ∧ Q p.2 q.2 R1 ∧ xP Q a l R2
 | _, _, _ => False
def nP {κ γ : Type} (kenc : κ → Value) (Q : Value → γ → List (Nat × Obj) → Prop) (v : Value) (c : List (κ × Value)) (l : List (κ × γ)) (R : List (Nat × Obj)) : Prop :=
 ∃ a b, R = a ++ b ∧ nr kenc (fun x => x) v c a ∧ xP Q c l b
section
variable {κ γ : Type} {Q : Value → γ → List (Nat × Obj) → Prop} {beq : κ → κ → Bool} {kenc : κ → Value}
theorem xP.keys : ∀ {a : List (κ × Value)} {l : List (κ × γ)} {R : List (Nat × Obj)}, xP Q a l R → a.map (·.1) = l.map (·.1)
 | [], [], _, _ => rfl
 | [], _ :: _, _, h => h.elim
 | _ :: _, [], _, h => h.elim
 | p :: a, q :: l, R, h => by
  obtain ⟨h1, R1, R2, _, _, b⟩ := h
  simp [h1, xP.keys b]
theorem xP.find {a : List (κ × Value)} {l : List (κ × γ)} {R : List (Nat × Obj)} (h : xP Q a l R) (k : κ) : a.findIdx? (fun p => beq k p.1) = l.findIdx? (fun p => beq k p.1) := by
 have h1 : (a.map (·.1)).findIdx? (fun x => beq k x) = (l.map (·.1)).findIdx? (fun x => beq k x) := by rw [h.keys]
 rw [iQ, iQ] at h1
 exact h1
theorem xP.get : ∀ {b : List (κ × Value)} {l : List (κ × γ)} {R : List (Nat × Obj)}, xP Q b l R → ∀ (i : Nat) (k : κ) (x : γ), l[i]? = some (k, x) →
  ∃ v A R1 B, b[i]? = some (k, v) ∧ R = A ++ (R1 ++ B) ∧ Q v x R1 ∧ ∀ k2 v2 x2 R2, Q v2 x2 R2 → xP Q (b.set i (k2, v2)) (l.set i (k2, x2)) (A ++ (R2 ++ B))
 | [], [], _, _, i, k, x, a => by simp at a
 | [], _ :: _, _, h, _, _, _, _ => h.elim
 | _ :: _, [], _, h, _, _, _, _ => h.elim
 | p :: b, q :: l, R, h, 0, k, x, a => by
  obtain ⟨h1, R1, R2, rfl, c, d⟩ := h
  simp at a
  subst a
  refine ⟨p.2, [], R1, R2, by simp only [iL]; exact aY some (Prod.ext h1 rfl), rfl, c, fun k2 v2 x2 R2' g => ⟨rfl, R2', R2, rfl, g, d⟩⟩
 | p :: b, q :: l, R, h, i + 1, k, x, a => by
  obtain ⟨h1, R1, R2, rfl, c, d⟩ := h
  simp at a
  obtain ⟨v, A, R1', B, g1, rfl, g3, g4⟩ := xP.get d i k x a
  exact ⟨v, R1 ++ A, R1', B, by simpa using g1, by simp, g3, fun k2 v2 x2 R2' g => ⟨h1, R1, A ++ (R2' ++ B), by simp, c, g4 k2 v2 x2 R2' g⟩⟩
theorem xP.push : ∀ {b : List (κ × Value)} {l : List (κ × γ)} {R : List (Nat × Obj)}, xP Q b l R → ∀ (k : κ) {v : Value} {x : γ} {R1 : List (Nat × Obj)}, Q v x R1 → xP Q (b ++ [(k, v)]) (l ++ [(k, x)]) (R ++ R1)
 | [], [], _, h, k, v, x, R1, a => by
  have g : _ = [] := h
  subst g
  exact ⟨rfl, R1, [], by simp, a, rfl⟩
 | [], _ :: _, _, h, _, _, _, _, _ => h.elim
 | _ :: _, [], _, h, _, _, _, _, _ => h.elim
 | p :: b, q :: l, R, h, k, v, x, R1, a => by
  obtain ⟨h1, c, d, rfl, i, j⟩ := h
  exact ⟨h1, c, d ++ R1, by simp, i, xP.push j k a⟩
theorem nP.found {s : Value} {c : List (κ × Value)} {l : List (κ × γ)} {R : List (Nat × Obj)} (hk : ∀ {x y : κ}, beq x y = true → x = y) (h : nP kenc Q s c l R) {k : κ} {x : γ} (b : mL beq l k = some x) :
  ∃ v A R1 B, mL beq c k = some v ∧ R = A ++ (R1 ++ B) ∧ Q v x R1 ∧ (∀ x2 R2, Q v x2 R2 → nP kenc Q s c (pw beq l k x2) (A ++ (R2 ++ B))) := by
 obtain ⟨q, z, rfl, t, r⟩ := h
 rw [vx] at b
 cases d : l.findIdx? (fun p => beq k p.1) with
 | none => rw [d] at b; cases b
 | some i =>
  rw [d] at b
  obtain ⟨p, hp, u⟩ := rA d
  simp only [aA, hp, dZ, iR] at b
  subst b
  have o := hk u
  obtain ⟨v, A, R1, B, g1, rfl, g3, g4⟩ := r.get i p.1 p.2 hp
  have g : c.findIdx? (fun p => beq k p.1) = some i := by rw [r.find k, d]
  refine ⟨v, q ++ A, R1, B, by rw [vx, g]; simp [g1], by simp, g3, fun x2 R2 w => ⟨q, A ++ (R2 ++ B), by simp, t, ?_⟩⟩
  have a := g4 k v x2 R2 w
  have e : c.set i (k, v) = c := by
   apply fN
   intro j
   rw [fZ]
   split
   ·rename_i n
    subst n
    rw [g1, o]
    simp [(bG.1 g1).1]
   ·rfl
  rw [e] at a
  rw [pw, d]
  exact a
theorem nP.JI {g : Value} {c : List (κ × Value)} {l : List (κ × γ)} {R : List (Nat × Obj)} (h : nP kenc Q g c l R) {k : κ} (a : mL beq l k = none) : mL beq c k = none := by
 obtain ⟨j, n, rfl, o, d⟩ := h
 rw [vx] at a ⊢
 rw [d.find k]
 cases b : l.findIdx? (fun p => beq k p.1) with
 | none => rfl
 | some i =>
  rw [b] at a
  obtain ⟨p, hp, q⟩ := rA b
  simp [hp] at a
def qt (beq : κ → κ → Bool) (a : List (κ × Value)) (k : κ) (z : Value) : Value := (mL beq a k).getD z
variable {P : Program} {W : World} {kt : TypeId} {E : Nat → Value} {d : Option Nat} {ty : TypeId} {pos : String} {af : Array Edge} {g : Option (Nat × Bool)} {F : Nat → Prop} {w : World} {μ : lZ} {L : List (Nat × Obj)}
theorem qv {t e : TypeId} {m x : Operand} {c z : Value} {a : List (κ × Value)} {l : List (κ × γ)} {R : List (Nat × Obj)} {k : κ} (K : qf P kt kenc beq) (r : P.underlying t = some (.map kt e)) (u : ∀ w, (zeroValue e).run P w = .ok z w) (hm : lC E m = c) (s : lC E x = kenc k) (n : nP kenc Q c a l R) (q : ∀ b o, (b, o) ∈ R → W.heap[b]? = some o) : nx P E ⟨d, .lookup t m x false, ty, pos, af, g⟩ W (qt beq a k z) W := by
 obtain ⟨v, y, rfl, i, A⟩ := n
 have j := Jm (d := d) (ty := ty) (pos := pos) (af := af) (g := g) K r u hm s (i.at (μ := hp W) (fun b o h => q b o (cI _ h)))
 simpa [qt] using j
variable {κ2 β : Type} {kenc2 : κ2 → Value} {vf : β → Value} {beq2 : κ2 → κ2 → Bool} {kt2 : TypeId}
theorem nP.DR {i : Value} {c : List (κ × Value)} {l : List (κ × List (κ2 × β))} {R : List (Nat × Obj)} (hk : ∀ {x y : κ}, beq x y = true → x = y) (h : nP kenc (nr kenc2 vf) i c l R) (k : κ) {μ : lZ} (d : ∀ b o, (b, o) ∈ R → μ b = some o) :
  vH kenc2 vf μ (qt beq c k (.map none)) ((mL beq l k).getD []) := by
 cases a : mL beq l k with
 | none => rw [qt, h.JI a]; exact .inl ⟨rfl, rfl⟩
 | some x =>
  obtain ⟨v, A, R1, B, g1, rfl, g3, _⟩ := h.found hk a
  rw [qt, g1]
  exact g3.at (fun b o g => d b o (by simp [g]))
theorem nP.isNil {c : Value} {b : List (κ × Value)} {l : List (κ × List (κ2 × β))} {R : List (Nat × Obj)} (hk : ∀ {x y : κ}, beq x y = true → x = y) (h : nP kenc (nr kenc2 vf) c b l R) (k : κ) :
  ∃ r, qt beq b k (.map none) = .map r ∧ r.isNone = (mL beq l k).isNone := by
 cases a : mL beq l k with
 | none => rw [qt, h.JI a]; exact ⟨none, rfl, rfl⟩
 | some x =>
  obtain ⟨v, A, R1, B, g1, rfl, g3, _⟩ := h.found hk a
  obtain ⟨m, es, clock, rfl, _⟩ := g3
  rw [qt, g1]
  exact ⟨_, rfl, rfl⟩
def Gi {κ κ2 β : Type} (beq : κ → κ → Bool) (beq2 : κ2 → κ2 → Bool) (l : List (κ × List (κ2 × β))) (k : κ) (k2 : κ2) (x : β) : Option (List (κ × List (κ2 × β))) := (mL beq l k).map fun a => pw beq l k (pw beq2 a k2 x)
def D3 {κ γ : Type} (beq : κ → κ → Bool) (l : List (κ × γ)) (k : κ) (x : γ) : Option (List (κ × γ)) := if (mL beq l k).isNone then some (pw beq l k x) else none
theorem Oc {o : Value → World → Prop} (X : List (Nat × Obj)) {Y R : List (Nat × Obj)} {t e : TypeId} {m x y : Operand} {r : Value} {n : List (κ × Value)} {l q : List (κ × List (κ2 × β))} {k : κ} {k2 : κ2} {v : β} (hk : ∀ {x y : κ}, beq x y = true → x = y) (K : qf P kt2 kenc2 beq2) (D : P.underlying t = some (.map kt2 e)) (c : ST dd F w W μ (X ++ (R ++ Y))) (h : nP kenc (nr kenc2 vf) r n l R) (hm : lC E m = qt beq n k (.map none)) (G : lC E x = kenc2 k2) (I : lC E y = vf v) (b : Gi beq beq2 l k k2 v = some q) (z : ∀ W' R', ST dd F w W' μ (X ++ (R' ++ Y)) → nP kenc (nr kenc2 vf) r n q R' → o undef W') : oB P E ⟨d, .mapUpdate t m x y, ty, pos, af, g⟩ W o := by
 unfold Gi at b
 cases i : mL beq l k with
 | none => rw [i] at b; cases b
 | some J =>
  rw [i] at b
  cases b
  obtain ⟨u, A, R1, B, g1, rfl, g3, g4⟩ := h.found hk i
  have j : lC E m = u := by rw [hm, qt, g1]; rfl
  have a : ST dd F w W μ ((X ++ A) ++ (R1 ++ (B ++ Y))) := by simpa using c
  refine CG (X ++ A) K D a g3 j G I (fun W' R' h1 s => z W' (A ++ (R' ++ B)) ?_ (g4 _ _ s))
  simpa using h1
theorem Nk {v : Value → World → Prop} (X : List (Nat × Obj)) {Y R R2 : List (Nat × Obj)} {t e : TypeId} {m x y : Operand} {s : Value} {r : List (κ × Value)} {l G : List (κ × γ)} {k : κ} {u : Value} {z : γ} (K : qf P kt kenc beq) (Z : P.underlying t = some (.map kt e)) (o : ST dd F w W μ (X ++ (R ++ (R2 ++ Y)))) (h : nP kenc Q s r l R) (hm : lC E m = s) (hx : lC E x = kenc k) (hy : lC E y = u) (U : Q u z R2) (b : D3 beq l k z = some G) (O : ∀ W' R', ST dd F w W' μ (X ++ (R' ++ Y)) → nP kenc Q s (pw beq r k u) G R' → v undef W') : oB P E ⟨d, .mapUpdate t m x y, ty, pos, af, g⟩ W v := by
 unfold D3 at b
 cases j : mL beq l k with
 | some l2 => rw [j] at b; cases b
 | none =>
  rw [j] at b
  simp only [jD, aS, iR] at b
  subst b
  have T := h.JI j
  obtain ⟨J, n, rfl, L, M⟩ := h
  have c : ST dd F w W μ (X ++ (J ++ (n ++ (R2 ++ Y)))) := by simpa using o
  refine CG X K Z c L hm hx hy (fun W' R' g1 g2 => O W' (R' ++ (n ++ R2)) (by simpa using g1) ⟨R', n ++ R2, rfl, g2, ?_⟩)
  have A : ∀ {I : Type} (q : List (κ × I)) (y : I), mL beq q k = none → pw beq q k y = q ++ [(k, y)] := fun q y a => by
   rw [vx] at a
   rw [pw]
   cases D : q.findIdx? (fun p => beq k p.1) with
   | none => rfl
   | some i =>
    obtain ⟨p, hp, _⟩ := rA D
    rw [D] at a
    simp [hp] at a
  rw [A r u T, A l z j]
  exact M.push k U
theorem nP.TD {α : Type} {e : TypeId} {enc : α → List Value} {n : Nat} (i : ∀ x, (enc x).length = n) {j : Value} {c : List (κ × Value)} {l : List (κ × List α)} {R : List (Nat × Obj)} (hk : ∀ {x y : κ}, beq x y = true → x = y) (h : nP kenc (lR e enc n) j c l R) (k : κ) {μ : lZ} (d : ∀ b o, (b, o) ∈ R → μ b = some o) :
  Sl (Pl enc) n μ (qt beq c k (.slice none 0 0)) ((mL beq l k).getD []) := by
 cases a : mL beq l k with
 | none => rw [qt, h.JI a]; exact ⟨none, 0, rfl, aT _, eA _, fun h => absurd h (Nat.lt_irrefl _)⟩
 | some x =>
  obtain ⟨v, A, R1, B, g1, rfl, g3, _⟩ := h.found hk a
  rw [qt, g1]
  exact g3.sl i (fun b o g => d b o (by simp [g]))
end
end Go.Proofs.YtklbhegeiijbjaaGreat
namespace Go.Proofs.YtklbhegeiijbjaaGreat
open Go.RowKit
variable {dd : Bool}
section
variable {κ γ : Type} {Q : Value → γ → List (Nat × Obj) → Prop} {beq : κ → κ → Bool} {kenc : κ → Value}
theorem sv {a : Type} {l : List (κ × a)} {k : κ} {i : Nat} (h : l.findIdx? (fun p => beq k p.1) = some i) (x : a) : pw beq l k x = l.set i (k, x) := by rw [pw, h]
theorem wj {a : Type} {l : List (κ × a)} {k : κ} (h : l.findIdx? (fun p => beq k p.1) = none) (x : a) : pw beq l k x = l ++ [(k, x)] := by rw [pw, h]
theorem Ew {a : Type} {l : List (κ × a)} {k : κ} (h : l.findIdx? (fun p => beq k p.1) = none) : mL beq l k = none := by rw [vx, h]; rfl
theorem DQ {a : Type} {l : List (κ × a)} {k : κ} {i : Nat} {p : κ × a} (h : l.findIdx? (fun p => beq k p.1) = some i) (hp : l[i]? = some p) : mL beq l k = some p.2 := by rw [vx, h]; simp [hp]
def MN (beq : κ → κ → Bool) (kenc : κ → Value) (Q : Value → γ → List (Nat × Obj) → Prop) (c : Value) (b : List (κ × Value)) (l : List (κ × γ)) (k : κ) (R : List (Nat × Obj)) : Prop :=
 ∃ a A B, R = a ++ (A ++ B) ∧ nr kenc (fun x => x) c b a ∧ ∀ v x R1, Q v x R1 → xP Q (pw beq b k v) (pw beq l k x) (A ++ (R1 ++ B))
theorem nP.open (hk : ∀ {x y : κ}, beq x y = true → x = y) {r z : Value} {x0 : γ} (j : Q z x0 []) {n : List (κ × Value)} {l : List (κ × γ)} {R : List (Nat × Obj)} (h : nP kenc Q r n l R) (k : κ) :
  ∃ R' R1, R.Perm (R' ++ R1) ∧ Q (qt beq n k z) ((mL beq l k).getD x0) R1 ∧ MN beq kenc Q r n l k R' := by
 obtain ⟨c, o, rfl, q, d⟩ := h
 have b := d.find (beq := beq) k
 cases a : l.findIdx? (fun p => beq k p.1) with
 | none =>
  rw [a] at b
  refine ⟨c ++ o, [], by simp, ?_, c, o, [], by simp, q, fun v x R1 g => ?_⟩
  ·rw [qt, Ew a, Ew b]; exact j
  ·rw [wj a, wj b]; simpa using d.push k g
 | some i =>
  rw [a] at b
  obtain ⟨p, hp, s⟩ := rA a
  have t := hk s
  obtain ⟨v, A, R1, B, g1, rfl, g3, g4⟩ := d.get i p.1 p.2 hp
  refine ⟨c ++ (A ++ B), R1, ?_, ?_, c, A, B, rfl, q, fun v2 x2 R2 g => ?_⟩
  ·rw [aQ, aQ]
   refine cA _ (cA _ fW)
  ·rw [qt, DQ a hp, DQ b g1]; exact g3
  ·rw [sv a, sv b]; exact g4 k v2 x2 R2 g
variable {P : Program} {W : World} {kt : TypeId} {E : Nat → Value} {d : Option Nat} {ty : TypeId} {pos : String} {af : Array Edge} {g : Option (Nat × Bool)} {F : Nat → Prop} {w : World} {μ : lZ} {L : List (Nat × Obj)}
theorem Sg {i : Value → World → Prop} (X : List (Nat × Obj)) {Y R R1 : List (Nat × Obj)} {t e : TypeId} {m x y : Operand} {c : Value} {j : List (κ × Value)} {l : List (κ × γ)} {k : κ} {u : Value} {z : γ} (K : qf P kt kenc beq) (v : P.underlying t = some (.map kt e)) (b : ST dd F w W μ (X ++ (R ++ (R1 ++ Y)))) (h : MN beq kenc Q c j l k R) (hm : lC E m = c) (D : lC E x = kenc k) (G : lC E y = u) (s : Q u z R1) (r : ∀ W' R', ST dd F w W' μ (X ++ (R' ++ Y)) → nP kenc Q c (pw beq j k u) (pw beq l k z) R' → i undef W') : oB P E ⟨d, .mapUpdate t m x y, ty, pos, af, g⟩ W i := by
 obtain ⟨n, A, B, rfl, o, q⟩ := h
 have a : ST dd F w W μ (X ++ (n ++ (A ++ (B ++ (R1 ++ Y))))) := by simpa using b
 refine CG X K v a o hm D G (fun W' R' g1 g2 => r W' (R' ++ (A ++ (R1 ++ B))) ?_ ⟨R', A ++ (R1 ++ B), rfl, g2, q u z R1 s⟩)
 refine g1.perm ?_
 simp only [aQ]
 refine cA _ (cA _ (cA _ ?_))
 rw [← aQ, ← aQ]
 exact iS _ fW
def I8 (beq : κ → κ → Bool) (kenc : κ → Value) (Q : Value → γ → List (Nat × Obj) → Prop) (b : Value) (l : List (κ × γ)) (k : κ) (c : Nat) (R : List (Nat × Obj)) : Prop :=
 ∃ m es clock a A B i e, b = .map (some m) ∧ R = (m, .map es clock) :: (A ++ B) ∧ vG kenc (fun x => x) a es clock ∧ es[i]? = some e ∧ e.born = c ∧ a.findIdx? (fun p => beq k p.1) = some i ∧
  ∀ v x R1, Q v x R1 → xP Q (pw beq a k v) (pw beq l k x) (A ++ (R1 ++ B))
theorem Ig {g : Type} (hk : ∀ x : κ, beq x x = true) (d : List (κ × g)) (k : κ) (a b : g) : pw beq (pw beq d k a) k b = pw beq d k b := by
 cases c : d.findIdx? (fun p => beq k p.1) with
 | none =>
  have h1 : (d ++ [(k, a)]).findIdx? (fun p => beq k p.1) = some d.length := by
   rw [jh, c]
   simp [fU, hk]
  rw [wj c, wj c, sv h1]
  simp
 | some i =>
  obtain ⟨p, hp, o⟩ := rA c
  have h1 : (d.set i (k, a)).findIdx? (fun p => beq k p.1) = some i := by
   rw [fA] at c ⊢
   obtain ⟨h1, n, h⟩ := c
   refine ⟨by simpa using h1, by simp [hk], fun j l => ?_⟩
   rw [List.getElem_set_ne (by omega)]
   exact h j l
  rw [sv c, sv c, sv h1]
  simp
end
end Go.Proofs.YtklbhegeiijbjaaGreat
namespace Go.Proofs.YtklbhegeiijbjaaGreat
open Go.RowKit
variable {dd : Bool}
section
variable {κ γ : Type} {Q : Value → γ → List (Nat × Obj) → Prop} {beq : κ → κ → Bool} {kenc : κ → Value}
variable {P : Program} {W : World} {kt : TypeId} {E : Nat → Value} {d : Option Nat} {ty : TypeId} {pos : String} {af : Array Edge} {g : Option (Nat × Bool)} {F : Nat → Prop} {w : World} {μ : lZ} {L : List (Nat × Obj)}
theorem EB {es : Array MapEntry} {i : Nat} {f b : MapEntry → MapEntry} (h : ∀ e, es[i]? = some e → f e = b e) : es.modify i f = es.modify i b := by
 apply Array.ext_getElem?
 intro j
 rw [dF, dF]
 split
 ·rename_i a
  subst a
  cases he : es[i]? with
  | none => rfl
  | some e => simp [h e he]
 ·rfl
theorem vG.val {b : List (κ × Value)} {es : Array MapEntry} {clock : Nat} (h : vG kenc (fun x => x) b es clock) {i : Nat} {e : MapEntry} (he : es[i]? = some e) : ∃ p, b[i]? = some p ∧ e.key = kenc p.1 ∧ e.val = p.2 := by
 have a := aY (fun q => q[i]?) h.FA
 simp only [gk, dR, he, dZ] at a
 cases hp : b[i]? with
 | none => rw [hp] at a; cases a
 | some p =>
  rw [hp] at a
  simp only [dZ, iR, Prod.mk.injEq] at a
  exact ⟨p, rfl, a.1, a.2⟩
theorem MH {Kk : Value → World → Prop} (X : List (Nat × Obj)) {Y R : List (Nat × Obj)} {t e : TypeId} {m x : Operand} {mv z : Value} {x0 : γ} {lv : List (κ × Value)} {l : List (κ × γ)} {k : κ} (hk : ∀ {x y : κ}, beq x y = true ↔ x = y) (K : qf P kt kenc beq) (ht : P.underlying t = some (.map kt e)) (hz : ∀ w, (zeroValue e).run P w = .ok z w) (aa : Q z x0 []) (M : ST dd F w W μ (X ++ (R ++ Y))) (h : nP kenc Q mv lv l R) (hm : lC E m = mv) (hx : lC E x = kenc k) (hK : ∀ W' v st R' R1, ST dd F w W' μ (X ++ (R' ++ (R1 ++ Y))) → Q v ((mL beq l k).getD x0) R1 → I8 beq kenc Q mv l k st R' → Kk (.tuple #[v, .int .i64 (st : Nat)]) W') : oB P E ⟨d, .mapEntry t m x, ty, pos, af, g⟩ W Kk := by
 obtain ⟨Rm, Rv, rfl, ⟨n, es, clock, rfl, rfl, o⟩, L⟩ := h
 have hb : W.heap[n]? = some (.map es clock) := (M.box n (.map es clock) (by simp)).1
 have h5 : (getObj n : Sem Obj).run P W = .ok (.map es clock) W := by simp [getObj, Sem.run, hb]
 have I := K.find k _ _ o.keys W
 rw [o.get k] at I
 have u := L.find (beq := beq) k
 have s : ∀ W' v, (Instr.mapEntry t (.map (some n)) (kenc k)).run P W = .ok v W' → (execOp (lC E) ⟨d, .mapEntry t m x, ty, pos, af, g⟩).run P W = .ok (.value v) W' := by
  intro W' v hr
  show (do pure (.value (← Instr.mapEntry t (lC E m) (lC E x))) : Sem Next).run P W = _
  rw [hm, hx]
  simp [hr]
 have r : ST dd F w W μ (X ++ (n, .map es clock) :: (Rv ++ Y)) := by simpa using M
 cases b : lv.findIdx? (fun p => beq k p.1) with
 | none =>
  rw [b] at I u
  have a := o.put (beq := beq) k z
  rw [b] at a
  refine .inl ⟨_, ChangeMaps.setBlock W n (.map (es.push { key := kenc k, val := z, born := clock }) (clock + 1)), s _ (.tuple #[z, .int .i64 (clock : Nat)]) ?_, hK _ z clock ((n, .map (es.push { key := kenc k, val := z, born := clock }) (clock + 1)) :: (Rv ++ [])) [] ?_ ?_ ?_⟩
  ·simp [Instr.mapEntry, aU ht, h5, K.check, I, zn hb, hz _, goInt]
  ·have := r.setBlock (.map (es.push { key := kenc k, val := z, born := clock }) (clock + 1))
   simpa using this
  ·rw [Ew u.symm]; exact aa
  ·refine ⟨n, _, _, lv ++ [(k, z)], Rv, [], es.size, { key := kenc k, val := z, born := clock }, rfl, rfl, a, by simp, rfl, ?_, fun v x R1 hq => ?_⟩
   ·rw [jh, b]
    have a7 := o.length
    simp [fU, hk, a7]
   ·rw [← wj b, Ig (fun x => hk.2 rfl), wj b, wj u.symm]
    simpa using L.push k hq
 | some i =>
  rw [b] at I u
  obtain ⟨p, hp, a8⟩ := rA b
  obtain ⟨q, a6, O⟩ := rA u.symm
  have ad := hk.1 O
  obtain ⟨v, A, R1, B, g1, rfl, g3, g4⟩ := L.get i q.1 q.2 a6
  have a1 : p.2 = v := by rw [g1] at hp; cases hp; rfl
  have a7 := o.length
  have ab : i < lv.length := (bG.1 hp).1
  obtain ⟨J, c⟩ : ∃ J, es[i]? = some J := ⟨es[i], Array.getElem?_eq_getElem (by omega)⟩
  obtain ⟨p', Z, D, G⟩ := o.val c
  rw [hp] at Z
  cases Z
  simp only [aA, hp, dZ] at I
  have a := o.put (beq := beq) k v
  rw [b] at a
  have T : ((es[i]?).map (·.key)).getD (kenc k) = kenc k := by
   rw [c]
   simp only [dZ, jc, D]
   exact K.eq k p.1 a8
  have U : es.modify i (fun e => { e with key := kenc k }) = es.modify i (fun e => { e with key := kenc k, val := v }) := EB fun e he => by
   rw [c] at he; cases he
   rw [← a1, ← G]
  refine .inl ⟨_, ChangeMaps.setBlock W n (.map (es.modify i fun e => { e with key := kenc k, val := v }) clock), s _ (.tuple #[v, .int .i64 (J.born : Nat)]) ?_, hK _ v J.born ((n, .map (es.modify i fun e => { e with key := kenc k, val := v }) clock) :: (A ++ B)) R1 ?_ ?_ ?_⟩
  ·simp only [Instr.mapEntry, cC, aU ht, h5, K.check, I, bM, T, Instr.keyThatStays, K.bits, aS, cV]
   rw [zn hb, U]
   simp [c, goInt, a1]
  ·have := r.setBlock (.map (es.modify i fun e => { e with key := kenc k, val := v }) clock)
   refine this.perm ?_
   simp only [aQ, cE]
   refine cA _ (List.Perm.cons _ (cA _ ?_))
   rw [← aQ, ← aQ]
   exact iS _ fW
  ·rw [DQ u.symm a6]; exact g3
  ·refine ⟨n, _, _, lv.set i (k, v), A, B, i, { J with key := kenc k, val := v }, rfl, rfl, a, ?_, rfl, ?_, fun v2 x2 R2 hq => ?_⟩
   ·rw [dF, aZ rfl, c]; rfl
   ·rw [fA] at b ⊢
    obtain ⟨h1, o, L⟩ := b
    refine ⟨by simpa using h1, by simp [hk], fun j hj => ?_⟩
    rw [List.getElem_set_ne (by omega)]
    exact L j hj
   ·rw [← sv b, Ig (fun x => hk.2 rfl), sv b, sv u.symm]
    exact g4 k v2 x2 R2 hq
theorem NN {es : Array MapEntry} (h : es.toList.Pairwise (fun a b => a.born < b.born)) {i : Nat} {e : MapEntry} (he : es[i]? = some e) : es.findIdx? (fun a => (a.born : Int) == (e.born : Int)) = some i := by
 rw [Array.findIdx?_eq_some_iff_getElem]
 obtain ⟨d, c⟩ := dI.1 he
 refine ⟨d, by rw [c]; simp, fun j g => ?_⟩
 have := List.pairwise_iff_getElem.1 h j i (by simpa using Nat.lt_trans g d) (by simpa using d) g
 simp only [Array.getElem_toList] at this
 rw [c] at this
 simp
 omega
theorem Kt {U : Value → World → Prop} (X : List (Nat × Obj)) {Y R R1 : List (Nat × Obj)} {t e : TypeId} {m s y : Operand} {T u : Value} {z : γ} {l : List (κ × γ)} {k : κ} {st : Nat} (hk : ∀ {x y : κ}, beq x y = true ↔ x = y) (K : qf P kt kenc beq) (o : ST dd F w W μ (X ++ (R ++ (R1 ++ Y)))) (h : I8 beq kenc Q T l k st R) (hm : lC E m = T) (hs : lC E s = .int .i64 (st : Nat)) (hy : lC E y = u) (hq : Q u z R1) (hK : ∀ W' O R', ST dd F w W' μ (X ++ (R' ++ Y)) → nP kenc Q T O (pw beq l k z) R' → U undef W') : oB P E ⟨d, .entryStore t m s y, ty, pos, af, g⟩ W U := by
 obtain ⟨b, es, clock, lv, A, B, i, en, rfl, rfl, I, j, c, L, h3⟩ := h
 have Z : W.heap[b]? = some (.map es clock) := (o.box b (.map es clock) (by simp)).1
 have h5 : (getObj b : Sem Obj).run P W = .ok (.map es clock) W := by simp [getObj, Sem.run, Z]
 obtain ⟨p, hp, J⟩ := rA L
 obtain ⟨p', G, n, M⟩ := I.val j
 rw [hp] at G
 cases G
 have a := I.put (beq := beq) k u
 rw [L] at a
 have D : es.modify i (fun e => { e with val := u }) = es.modify i (fun e => { e with key := kenc k, val := u }) := EB fun e he => by
  rw [j] at he; cases he
  have r : en.key = kenc k := by rw [n]; exact K.eq k p.1 J
  rw [← r]
 have v := NN I.born j
 rw [c] at v
 have q : ST dd F w W μ (X ++ (b, .map es clock) :: (A ++ (B ++ (R1 ++ Y)))) := by simpa using o
 refine .inr (.inl ⟨ChangeMaps.setBlock W b (.map (es.modify i fun e => { e with key := kenc k, val := u }) clock), ?_, hK _ (pw beq lv k u) ((b, .map (es.modify i fun e => { e with key := kenc k, val := u }) clock) :: (A ++ (R1 ++ B))) ?_ ⟨[(b, .map (es.modify i fun e => { e with key := kenc k, val := u }) clock)], A ++ (R1 ++ B), rfl, ⟨b, _, _, rfl, rfl, ?_⟩, h3 u z R1 hq⟩⟩)
 ·show (do Instr.entryStore t (lC E m) (lC E s) (lC E y); pure .skip : Sem Next).run P W = _
  rw [hm, hs, hy]
  simp only [Instr.entryStore, cC, h5, bM, asInt, asIntOf, cV, v]
  rw [zn Z, D]
  rfl
 ·have := q.setBlock (.map (es.modify i fun e => { e with key := kenc k, val := u }) clock)
  refine this.perm ?_
  simp only [aQ, cE]
  refine cA _ (List.Perm.cons _ (cA _ ?_))
  rw [← aQ, ← aQ]
  exact iS _ fW
 ·rw [sv L]; exact a
end
end Go.Proofs.YtklbhegeiijbjaaGreat
namespace Go.Proofs.YtklbhegeiijbjaaGreat
open Go.RowKit
variable {dd : Bool}
section
variable {κ γ : Type} {Q : Value → γ → List (Nat × Obj) → Prop} {beq : κ → κ → Bool} {kenc : κ → Value}
def nu (kenc : κ → Value) (Q : Value → γ → List (Nat × Obj) → Prop) (v : Value) (l : List (κ × γ)) (R : List (Nat × Obj)) : Prop := ∃ a, nP kenc Q v a l R
def rj (kenc : κ → Value) (Q : Value → γ → List (Nat × Obj) → Prop) (μ : lZ) (v : Value) (l : List (κ × γ)) : Prop := ∃ a R, nP kenc Q v a l R ∧ ∀ b o, (b, o) ∈ R → μ b = some o
theorem nu.at {v : Value} {l : List (κ × γ)} {R : List (Nat × Obj)} {μ : lZ} (h : nu kenc Q v l R) (a : ∀ b o, (b, o) ∈ R → μ b = some o) : rj kenc Q μ v l := let ⟨c, h⟩ := h; ⟨c, R, h, a⟩
theorem rj.mono {v : Value} {l : List (κ × γ)} {μ μ' : lZ} (h : rj kenc Q μ v l) (d : lP μ μ') : rj kenc Q μ' v l := let ⟨g, R, h, a⟩ := h; ⟨g, R, h, fun b o c => d _ _ (a b o c)⟩
theorem nP.form {v : Value} {a : List (κ × Value)} {l : List (κ × γ)} {R : List (Nat × Obj)} (h : nP kenc Q v a l R) : ∃ m, v = .map (some m) := let ⟨_, _, _, h, _⟩ := h; h.form
theorem nP.e {v : Value} {a : List (κ × Value)} {l : List (κ × γ)} {R : List (Nat × Obj)} (h : nP kenc Q v a l R) : nu kenc Q v l R := ⟨a, h⟩
theorem nu.form {v : Value} {l : List (κ × γ)} {R : List (Nat × Obj)} (h : nu kenc Q v l R) : ∃ m, v = .map (some m) := let ⟨_, h⟩ := h; h.form
theorem nu.new {v : Value} {R : List (Nat × Obj)} (h : nr (β := Value) kenc (fun x => x) v [] R) : nu kenc Q v [] R := ⟨[], R, [], (bV R).symm, h, rfl⟩
theorem nP.rowAt {α : Type} {e : TypeId} {enc : α → List Value} {n : Nat} {g : Value} {c : List (κ × Value)} {l : List (κ × List α)} {R : List (Nat × Obj)} (hk : ∀ {x y : κ}, beq x y = true → x = y) (h : nP kenc (lR e enc n) g c l R) (k : κ) :
  ∃ R1, lR e enc n (qt beq c k (.slice none 0 0)) ((mL beq l k).getD []) R1 ∧ ∀ b o, (b, o) ∈ R1 → (b, o) ∈ R := by
 cases a : mL beq l k with
 | none => refine ⟨[], ?_, fun b o h => by cases h⟩; rw [qt, h.JI a]; exact .inl ⟨rfl, rfl, rfl⟩
 | some x =>
  obtain ⟨v, A, R1, B, g1, rfl, g3, _⟩ := h.found hk a
  refine ⟨R1, ?_, fun b o d => by simp [d]⟩
  rw [qt, g1]; exact g3
theorem lR.Co {α : Type} {e : TypeId} {enc : α → List Value} {k : Nat} {v : Value} {l : List α} {R : List (Nat × Obj)} (h : lR e enc k v l R) (hk : ∀ x, (enc x).length = k) : Sl (Pl enc) k (Ba R) v l := by
 refine h.sl hk (fun b o a => ?_)
 rcases h with ⟨rfl, rfl, rfl⟩ | ⟨g, cap, c, rfl, rfl, _⟩
 ·cases a
 ·simp at a; obtain ⟨rfl, rfl⟩ := a; simp [Ba]
end
theorem pj.hp (W : World) : pj (hp W) [] W := ⟨fun _ _ h => h, fun _ _ h => by cases h⟩
section
variable {P : Program} {W : World} {E : Nat → Value} {d : Option Nat} {ty : TypeId} {pos : String} {af : Array Edge} {g : Option (Nat × Bool)} {F : Nat → Prop} {w : World} {μ : lZ} {L : List (Nat × Obj)}
theorem HC {t k e : TypeId} (dd : Nat) (b : P.underlying t = some (.map k e)) (a : Option Nat) (W : World) : (Op.equalIn (dd + 1) t (.map a) (.map none)).run P W = .ok a.isNone W := by
 cases a <;> simp [Op.equalIn, aU b]
theorem MR {a n k e : TypeId} {x y : Operand} {r : Option Nat} {b : Bool} (i : P.underlying a = some (.map k e)) (j : lC E x = .map r) (l : lC E y = .map none) (h : r.isNone = b) :
  nx P E ⟨d, .binOp .eql a x y n, ty, pos, af, g⟩ W (.bool b) W := by
 subst h
 show (do let r ← (do eqGuard .eql a x y (lC E x) (lC E y); binOp .eql a (lC E x) (lC E y)); pure (.value r) : Sem Next).run P W = _
 rw [j, l]
 have c := HC 9999 i r W
 simp [eqGuard, binOp, Op.equal, show Op.maxDepth = 9999 + 1 from rfl, c]
theorem KK {κ κ2 β : Type} {kenc : κ → Value} {kenc2 : κ2 → Value} {vf : β → Value} {beq : κ → κ → Bool} {b q kt e : TypeId} {x y : Operand} {o : Value} {a : List (κ × Value)} {l : List (κ × List (κ2 × β))} {R : List (Nat × Obj)} {k : κ} (hk : ∀ {x y : κ}, beq x y = true → x = y) (i : P.underlying b = some (.map kt e)) (h : nP kenc (nr kenc2 vf) o a l R) (j : lC E x = qt beq a k (.map none)) (n : lC E y = .map none) :
  nx P E ⟨d, .binOp .eql b x y q, ty, pos, af, g⟩ W (.bool (mL beq l k).isNone) W := by
 obtain ⟨r, h1, c⟩ := h.isNil hk k
 exact MR i (j.trans h1) n c
theorem Bk {κ γ : Type} {b : Value → World → Prop} {t : TypeId} (kenc : κ → Value) (Q : Value → γ → List (Nat × Obj) → Prop) (a : ST dd F w W μ L) (h : ∀ W' v R, ST dd F w W' μ (R ++ L) → nu kenc Q v [] R → b v W') : oB P E ⟨d, .makeMap t none, ty, pos, af, g⟩ W b :=
 Ii kenc (fun x : Value => x) a (fun W' v R h1 c => h W' v R h1 (nu.new c))
end
def rF {α : Type} (e : TypeId) (enc : α → List Value) (k : Nat) (v : Value) (l : List α) (R : List (Nat × Obj)) : Prop :=
 (v = .slice none 0 0 ∧ l = [] ∧ R = []) ∨
 ∃ g off cap a, v = .slice (some ⟨g, off, none⟩) l.length cap ∧ R = [(g, .cells a e (0, 0))] ∧ l.length ≤ cap ∧ cap ≤ maxLen ∧ off + cap * k ≤ a.size ∧ (a.toList.drop off).take (l.length * k) = (l.map enc).flatten
section
variable {α : Type} {e : TypeId} {enc : α → List Value} {k : Nat} {v : Value} {l : List α} {R : List (Nat × Obj)}
theorem rF.nil (e : TypeId) (enc : α → List Value) (k : Nat) : rF e enc k (.slice none 0 0) [] [] := .inl ⟨rfl, rfl, rfl⟩
theorem lR.Tp (h : lR e enc k v l R) : rF e enc k v l R := by
 rcases h with h | ⟨g, cap, a, h1, b, c, d, j, i⟩
 ·exact .inl h
 ·exact .inr ⟨g, 0, cap, a, h1, b, c, d, by omega, by simpa using i⟩
theorem rF.len (h : rF e enc k v l R) : l.length ≤ 9223372036854775807 := by
 rcases h with ⟨rfl, rfl, rfl⟩ | ⟨g, off, cap, a, rfl, rfl, h1, b, _⟩
 ·simp
 ·unfold maxLen at b; omega
theorem rF.form (h : rF e enc k v l R) : ∃ A c, v = .slice A l.length c := by
 rcases h with ⟨rfl, rfl, rfl⟩ | ⟨g, off, cap, a, rfl, rfl, _⟩
 ·exact ⟨_, _, rfl⟩
 ·exact ⟨_, _, rfl⟩
theorem rF.Co (h : rF e enc k v l R) (hk : ∀ x, (enc x).length = k) : Sl (Pl enc) k (Ba R) v l := by
 rcases h with ⟨rfl, rfl, rfl⟩ | ⟨g, off, cap, a, rfl, rfl, h1, c, q, d⟩
 ·exact Sl.nil _ _ _
 ·refine ⟨_, cap, rfl, h1, c, fun _ => ⟨g, off, a, e, (0, 0), rfl, by simp [Ba], fun i x n => ⟨enc x, hk x, rfl, fun j y o => ?_⟩⟩⟩
  have := wK hk l i x n j y o
  rw [← d] at this
  have b : i * k + j < l.length * k := by
   have := (bG.1 this).1
   simp at this; omega
  rw [eJ b, dY] at this
  simpa [fJ] using this
variable {P : Program} {W : World} {E : Nat → Value} {d : Option Nat} {ty : TypeId} {pos : String} {af : Array Edge} {g : Option (Nat × Bool)} {F : Nat → Prop} {w : World} {μ : lZ} {L : List (Nat × Obj)}
theorem Pd {x : Operand} {t a : TypeId} (b : P.underlying t = some (.slice a)) (i : lC E x = v) (h : rF e enc k v l R) : nx P E ⟨d, .call ⟨.builtin .len, #[x], #[t]⟩, ty, pos, af, g⟩ W (.int .i64 l.length) W := by
 obtain ⟨A, c, rfl⟩ := h.form
 exact As b i
theorem Mq {t q : TypeId} {x n : Operand} {L : IntKind} {i : Int} (z : P.underlying t = some (.slice q)) (he : ∀ w, (sizeOf q).run P w = .ok k w) (A : lC E x = v) (s : lC E n = .int L i) (hk : ∀ x, (enc x).length = k) (h : rF e enc k v l R) (D : 0 ≤ i) (y : i ≤ l.length) :
  ∃ u, rF e enc k u (l.drop i.toNat) R ∧ ∀ W, nx P E ⟨d, .slice t x (some n) none none, ty, pos, af, g⟩ W u W := by
 rcases h with ⟨rfl, rfl, rfl⟩ | ⟨j, off, cap, b, rfl, rfl, h1, M, O, F⟩
 ·have : i = 0 := by simp at y; omega
  subst this
  refine ⟨.slice none 0 0, by simpa using rF.nil e enc k, fun W => ?_⟩
  show (do pure (.value (← Instr.sliceAt t (lC E x) (some (lC E n)) none none)) : Sem Next).run P W = _
  rw [A, s]
  simp [Instr.sliceAt, Instr.slice, Instr.sliceBounds, Instr.sliceBound, asIntOf, aU z, he W]
 ·refine ⟨.slice (some (if cap = i.toNat then ⟨j, off, none⟩ else (Addr.add ⟨j, off, none⟩ (i.toNat * k)))) (l.length - i.toNat) (cap - i.toNat), .inr ?_, fun W => ?_⟩
  ·have a : (l.drop i.toNat).length = l.length - i.toNat := by simp
   have c : (l.map enc).flatten.drop (i.toNat * k) = ((l.drop i.toNat).map enc).flatten := by
    have G : l = l.take i.toNat ++ l.drop i.toNat := (iZ _ _).symm
    have I : ((l.take i.toNat).map enc).flatten.length = i.toNat * k := by rw [rp hk, dK, dQ (by omega)]
    conv => lhs; rw [G, cJ, cR]
    rw [← I, List.drop_left]
   by_cases r : cap = i.toNat
   ·rw [aZ r]
    have o : l.drop i.toNat = [] := List.drop_eq_nil_of_le (by omega)
    refine ⟨j, off, cap - i.toNat, b, by rw [o]; simp; omega, rfl, by rw [o]; simp, by omega, by have : (cap - i.toNat) * k ≤ cap * k := cP _ (by omega); omega, by rw [o]; simp⟩
   ·rw [aX r]
    refine ⟨j, off + i.toNat * k, cap - i.toNat, b, by rw [a, dT], rfl, by rw [a]; omega, by omega, ?_, ?_⟩
    ·have : i.toNat * k + (cap - i.toNat) * k = cap * k := by rw [← cO]; congr 1; omega
     omega
    ·rw [a, ← c, ← F, jB, List.drop_drop, Nat.sub_mul]
  ·show (do pure (.value (← Instr.sliceAt t (lC E x) (some (lC E n)) none none)) : Sem Next).run P W = _
   rw [A, s]
   have J : 0 ≤ i ∧ i ≤ (l.length : Int) := ⟨D, y⟩
   simp [Instr.sliceAt, Instr.slice, Instr.sliceBounds, Instr.sliceBound, asIntOf, aU z, he W, J]
   split <;> rfl
theorem KO {K : Value → World → Prop} {t : TypeId} {a6 : Nat} {z vs : Value} {m r : List α} (X : List (Nat × Obj)) {Y : List (Nat × Obj)} {x y : Operand} {i : TypeInfo} (a7 : ST dd F w W μ (X ++ (R ++ Y))) (hk : ∀ x, (enc x).length = k) (ak : 0 < k) (h1 : ∀ x, ∀ u ∈ enc x, u.oneCell' = true) (ht : P.underlying t = some (.slice e)) (hi : P.info? e = some i) (hz : i.zero = some z) (ab : z.cells.size = k) (a1 : i.size = k) (a8 : i.bytes = a6) (hx : lC E x = v) (hy : lC E y = vs) (hR : rF e enc k v l R) (hs : Sl (Pl enc) k (hp W) vs m) (hb : ol a6 l m = some r) (h : ∀ W' v' R', ST dd F w W' μ (X ++ (R' ++ Y)) → rF e enc k v' r R' → K v' W') : oB P E ⟨d, .call ⟨.builtin .append, #[x, y], #[t, t]⟩, ty, pos, af, g⟩ W K := by
 rcases hR with ⟨rfl, rfl, rfl⟩ | ⟨D, off, cap, s, rfl, rfl, h2, h3, h4, h5⟩
 ·exact JB X a7 hk ak h1 ht hi hz ab a1 a8 hx hy (lR.nil e enc k) hs hb (fun W' v' R' a b => h W' v' R' a b.Tp)
 unfold ol at hb
 split at hb
 case isFalse => cases hb
 rename_i Z
 cases hb
 have U : ∀ (V : Value) (W' : World), (Builtin.append_ #[t, t] ty #[.slice (some ⟨D, off, none⟩) l.length cap, vs]).run P W = .ok V W' → (execOp (lC E) ⟨d, .call ⟨.builtin .append, #[x, y], #[t, t]⟩, ty, pos, af, g⟩).run P W = .ok (.value V) W' := by
  intro V W' hV
  show (do let d ← resolve (lC E) ⟨.builtin .append, #[x, y], #[t, t]⟩ ty; invoke d.target d.args : Sem Next).run P W = _
  simp [resolve, invoke, builtin, hx, hy, hV]
 obtain ⟨A, c, rfl, ap, aq, ah⟩ := hs
 have L : ST dd F w W μ (X ++ (D, .cells s e (0, 0)) :: Y) := by simpa using a7
 have hg : W.heap[D]? = some (.cells s e (0, 0)) := (L.box D _ (by simp)).1
 have J := rp hk l
 have Q : ∀ u ∈ (m.map enc).flatten, u.oneCell' = true := by
  intro u hu
  obtain ⟨ys, ao, an⟩ := kC.1 hu
  obtain ⟨x, _, rfl⟩ := bD.1 ao
  exact h1 x u an
 have I : Src P i.size t (.slice A m.length c) m.length ((m.map enc).flatten) W := by
  rw [a1]
  rcases fH m.length with h0 | h0
  ·have hm : m = [] := aV h0
   subst hm
   cases A with
   | none => exact Src.ofNil W ht c
   | some ad => exact Src.ofSlice W ht ad 0 c [] (by simp) (fun j u hu => by simp at hu) (fun u hu => by cases hu)
  ·obtain ⟨b, o, cs, T, fr, rfl, h6, h7⟩ := ah h0
   refine Src.ofSlice W ht _ _ c _ (rp hk m) (fun j u hu => ?_) Q
   obtain ⟨i, x, q, h8, h9, rfl⟩ := GG hk m j u hu
   obtain ⟨ys, _, ae, ag⟩ := h7 i x h8
   cases ae
   rw [dT, iK W b (o + (i * k + q)) cs T fr h6, ← fJ]
   exact ag q u h9
 have n := rp hk m
 have O : ((l ++ m).map enc).flatten = (l.map enc).flatten ++ (m.map enc).flatten := by simp
 generalize (m.map enc).flatten = fm at I Q n O
 subst a1
 have ar : l.length * i.size ≤ cap * i.size := cP _ h2
 by_cases G : l.length + m.length ≤ cap
 ·have au : l.length * i.size + m.length * i.size ≤ cap * i.size := by rw [← cO]; exact cP _ G
  have aa := jW (P := P) D (off + l.length * i.size) e fm 0 s W hg (by rw [n]; omega) Q
  have M : (Builtin.append_ #[t, t] ty #[.slice (some ⟨D, off, none⟩) l.length cap, .slice A m.length c]).run P W = .ok (.slice (some ⟨D, off, none⟩) (l.length + m.length) cap) (W.setRow D (s.toList.take (off + l.length * i.size) ++ fm ++ s.toList.drop (off + l.length * i.size + fm.length)).toArray) := by
   simp [Builtin.append_, aU ht, sizeOf, typeInfo, hi, I.len, G, I.cells, dT]
   simp only [kL] at aa
   rw [aa]
   simp
  refine .inl ⟨_, _, U _ _ M, h _ _ [(D, _)] (by simpa using L.store _) (.inr ⟨D, off, cap, _, by rw [aD], rfl, by simpa using G, h3, ?_, ?_⟩)⟩
  ·simp only [dU, aD, dK, jb, dA, n]
   rw [dQ (by omega)]
   omega
  ·have hA : (s.toList.take (off + l.length * i.size)).length = off + l.length * i.size := by simp; omega
   show ((s.toList.take (off + l.length * i.size) ++ (fm ++ s.toList.drop (off + l.length * i.size + fm.length))).drop off).take ((l ++ m).length * i.size) = _
   rw [O, List.drop_append, jB, hA, show off - (off + l.length * i.size) = 0 by omega, List.drop_zero, show off + l.length * i.size - off = l.length * i.size by omega, h5]
   rw [aD, cO, gH, gH, J, n, dN (by rw [J]; omega), show l.length * i.size + m.length * i.size - l.length * i.size = m.length * i.size by omega, dN (by rw [n]; omega)]
   simp
 ·have hold : (Builtin.firstCells i.size l.length (.slice (some ⟨D, off, none⟩) l.length cap)).run P W.drew = .ok ((l.map enc).flatten).toArray W.drew := by
   refine run_firstCells_some W.drew i.size l.length ⟨D, off, none⟩ l.length cap _ J (fun j u hu => ?_)
   rw [dT]
   show W.cell? ⟨D, off + j, none⟩ = some u
   rw [iK W D (off + j) s e (0, 0) hg]
   rw [← h5] at hu
   have hj : j < l.length * i.size := by have := (bG.1 hu).1; simp at this; omega
   rw [eJ hj, dY] at hu
   simpa using hu
  have hlen : (l ++ m).length = l.length + m.length := aD
  have aj := grownCap_ge W (l.length + m.length) cap e
  have ai := jA W (l.length + m.length) cap e Z.2
  have M := run_append_grow_src (P := P) W t t ty e i z ht hi hz (some ⟨D, off, none⟩) l.length cap ((l.map enc).flatten) hold _ m.length _ I (by omega) (by have := Z.2; unfold maxLen at this; omega) (growslice_fits (by omega) (by rw [a8]; exact Z.1))
  have h6 := L.drew.alloc (.cells (((l.map enc).flatten ++ fm).toArray ++ Builtin.zeroCells z.cells (grownCap W (l.length + m.length) cap e - (l.length + m.length))) e (0, 0))
  have h7 := (ST.drop (A := (W.drew.heap.size, _) :: X) h6).perm (L' := X ++ ([(W.heap.size, _)] ++ Y)) (by simpa using (fS (a := (W.heap.size, _)) (l₁ := X) (l₂ := Y)).symm)
  refine .inl ⟨_, _, U _ _ M, h _ _ _ h7 (lR.Tp (.inr ⟨W.heap.size, grownCap W (l.length + m.length) cap e, _, by rw [hlen], rfl, by rw [hlen]; exact aj, ai, ?_, ?_⟩))⟩
  ·rw [Array.size_append, size_zeroCells, ab]
   simp only [dU, aD, J, n]
   rw [← cO, ← cO]
   congr 1
   omega
  ·rw [Array.toList_append, List.toList_toArray, hlen, O, List.take_append_of_le_length (by simp only [aD, J, n]; rw [cO]; exact aT _), dN (by simp only [aD, J, n]; rw [cO]; exact aT _)]
end
end Go.Proofs.YtklbhegeiijbjaaGreat
namespace Go.Proofs.YtklbhegeiijbjaaGreat
open Go.RowKit
section
variable {P : Program} {ops : Array Oper} {Q : Exit → Act → World → Prop} {S : Array Bool → World → Prop}
def yz (ops : Array Oper) (l : Array Bool) : Prop := ∀ j o, ops[j]? = some o → l.getD j true = true → ∀ e ∈ o.after, Region.binds .any e = true → l.getD e.on true = true
def Hg (ops : Array Oper) : Nat → List Nat → Bool
 | _, [] => true
 | j, k :: r => (match ops[j]? with | some o => o.after.any (fun e => Region.binds .any e && e.on == k) | none => false) && Hg ops k r
theorem G1 {l : Array Bool} (c : yz ops l) : ∀ (r : List Nat) (j i : Nat), Hg ops j r = true → (j :: r).getLast? = some i → l.getD j true = true → l.getD i true = true
 | [], j, i, _, h, a => by simp at h; subst h; exact a
 | k :: r, j, i, h, g, a => by
  simp only [Hg, bA] at h
  obtain ⟨h1, d⟩ := h
  cases b : ops[j]? with
  | none => rw [b] at h1; cases h1
  | some o =>
   rw [b] at h1
   simp only [Array.any_eq_true] at h1
   obtain ⟨n, q, h1⟩ := h1
   simp only [bA, kM] at h1
   have := c j o b a o.after[n] (Array.getElem_mem q) h1.1
   rw [h1.2] at this
   exact G1 c r k i d (by simpa [List.getLast?_cons_cons] using g) this
def Gy (ops : Array Oper) (i : Nat) (l : Array Bool) : Prop := yz ops l ∧ l.getD i true = false
theorem Gy.Dp {l : Array Bool} {i : Nat} (h : Gy ops i l) (j : Nat) (r : List Nat) (a : Hg ops j r = true) (c : (j :: r).getLast? = some i) : l.getD j true = false := by
 cases b : l.getD j true with
 | false => rfl
 | true => have := G1 h.1 r j i a c b; rw [h.2] at this; cases this
theorem yz.start (n : Nat) (h : n = ops.size) : yz ops (Array.replicate n false) := by
 subst h
 intro j o c b
 have a : j < ops.size := (dI.1 c).1
 simp [a] at b
theorem yz.set {l : Array Bool} {i : Nat} (h : yz ops l) (s : i ∈ Region.ready .any ops l) : yz ops (l.setIfInBounds i true) := by
 intro j o r q e he n
 have up : ∀ {k : Nat}, l.getD k true = true → (l.setIfInBounds i true).getD k true = true := fun {k} hk => by
  by_cases c : i = k
  ·subst c
   by_cases g : i < l.size
   ·simp [g]
   ·simp [g]
  ·rw [kX true c]; exact hk
 by_cases b : i = j
 ·subst b
  obtain ⟨_, t, d, a⟩ := lb.1 s
  rw [r] at d
  cases d
  refine up ?_
  have := a e he n
  by_cases g : e.on < l.size
  ·simp [g] at this ⊢; exact this
  ·simp [g]
 ·rw [kX true b] at q
  exact up (h j o r q e he n)
def CZ (P : Program) (ops : Array Oper) (S : Array Bool → World → Prop) (i : Nat) (o : Oper) (v : Value) (a : Act) : Prop :=
 (Region.wanted o (yielded ops a.tmps) = true ∧ ∀ l w, Gy ops i l → S l w → (execOp a.eval o).run P w = .ok (.value v) w) ∨
 (Region.wanted o (yielded ops a.tmps) = false ∧ v = undef)
theorem CZ.Tt {i : Nat} {o : Oper} {v : Value} {a : Act} {l : Array Bool} (h : CZ P ops S i o v a) (hp : Gy ops i l) : YieldsIf P ops (S l) o v a :=
 h.imp (fun ⟨h1, b⟩ => ⟨h1, fun w hw => b l w hp hw⟩) id
def LR (P : Program) (ops : Array Oper) (Q : Exit → Act → World → Prop) (S : Array Bool → World → Prop) : Nat → Array Bool → Act → World → Prop
 | 0, l, a, w => Region.ready .any ops l = [] ∧ Q .normal a w
 | n + 1, l, a, w => (Region.ready .any ops l = [] → Q .normal a w) ∧
  ∀ i ∈ Region.ready .any ops l, wpOp P ops Q i (fun c b => S (l.setIfInBounds i true) b ∧ LR P ops Q S n (l.setIfInBounds i true) c b) a w
theorem KY : ∀ (n : Nat) (l : Array Bool) (a : Act) (w : World), LR P ops Q S n l a w → wpAny P .any ops Q n l a w
 | 0, _, _, _, h => h
 | n + 1, _, _, _, h => ⟨h.1, fun i d => wpOp_mono (fun b g c => KY n _ b g c.2) (h.2 i d)⟩
theorem Oa {i j : Nat} {d r : Oper} {v : Value} (x : ops[j]? = some r) (n : d.apart ops r = true) (o : ∀ cs b, d.op ≠ .select cs b) (q : ∀ cs b, r.op ≠ .select cs b) (u : ∀ c a w, Q (.panic c) (a.put d.dst v) w → Q (.panic c) a w) {K : Act → World → Prop} {a : Act} {w : World} (y : CZ P ops S i d v a) (h : wpOp P ops Q j K (a.put d.dst v) w) :
  wpOp P ops Q j (fun g t => CZ P ops S i d v g ∧ K (g.put d.dst v) t) a w := by
 have h1 : YieldsIf P ops (fun w => ∃ l, Gy ops i l ∧ S l w) d v a := y.imp (fun ⟨h1, k⟩ => ⟨h1, fun w ⟨l, hp, hw⟩ => k l w hp hw⟩) id
 refine wpOp_mono (fun g t s => ⟨s.1.imp (fun ⟨h1, k⟩ => ⟨h1, fun l w hp hw => k w ⟨l, hp, hw⟩⟩) id, s.2⟩) (wpOp_putIf (S := fun w => ∃ l, Gy ops i l ∧ S l w) x n o q u h1 h)
theorem Ix {i : Nat} {z : Oper} {v : Value} (U : ops[i]? = some z) (u : ∀ (j : Nat) (o : Oper) cs b, ops[j]? = some o → o.op ≠ .select cs b) (hQ : ∀ c a w, Q (.panic c) (a.put z.dst v) w → Q (.panic c) a w) (hm : ∀ l w, S (l.setIfInBounds i true) w → S l w) :
  ∀ (n : Nat) (l : Array Bool) (a : Act) (w : World), (∀ j A, ops[j]? = some A → j ≠ i → l.getD j true = false → (∀ e ∈ A.after, Region.binds .any e = true → e.on ≠ i) → z.apart ops A = true) →
   yz ops l → i ∈ Region.ready .any ops l → CZ P ops S i z v a → S (l.setIfInBounds i true) w → LR P ops Q S n (l.setIfInBounds i true) (a.put z.dst v) w → LR P ops Q S (n + 1) l a w := by
 intro n
 induction n with
 | zero =>
  intro l a w _ L s M D H
  refine ⟨fun h => (by rw [h] at s; cases s), fun j F => ?_⟩
  by_cases d : j = i
  ·subst d
   exact (M.Tt ⟨L, (lb.1 s).1⟩).wpOp U (hm l w D) ⟨D, H⟩
  ·have := ready_mono F d
   rw [H.1] at this
   cases this
 | succ n ih =>
  intro l a w q L s M D H
  refine ⟨fun h => (by rw [h] at s; cases s), fun j F => ?_⟩
  by_cases d : j = i
  ·subst d
   exact (M.Tt ⟨L, (lb.1 s).1⟩).wpOp U (hm l w D) ⟨D, H⟩
  have h1 := H.2 j (ready_mono F d)
  obtain ⟨t, A, y, E⟩ := lb.1 F
  have I : ∀ e ∈ A.after, Region.binds .any e = true → e.on ≠ i := fun e he hb T => by
   have x := E e he hb
   have h0 := (lb.1 s).1
   rw [T] at x
   rcases Nat.lt_or_ge i l.size with O | O
   ·simp [O] at h0 x; rw [h0] at x; cases x
   ·simp [Array.getElem?_eq_none O] at x
  have x := Oa y (q j A y d t I) (fun cs b => u i z cs b U) (fun cs b => u j A cs b y) hQ M h1
  have r : ∀ k ok, ops[k]? = some ok → k ≠ i → (l.setIfInBounds j true).getD k true = false → (∀ e ∈ ok.after, Region.binds .any e = true → e.on ≠ i) → z.apart ops ok = true := fun k ok hk W J Y => by
   refine q k ok hk W ?_ Y
   by_cases G : j = k
   ·subst G; exact t
   ·rw [kX true G] at J; exact J
  have g : (l.setIfInBounds i true).setIfInBounds j true = (l.setIfInBounds j true).setIfInBounds i true := Array.setIfInBounds_comm _ _ (Ne.symm d)
  refine wpOp_mono (fun a' Z R => ?_) x
  have h4 : S ((l.setIfInBounds j true).setIfInBounds i true) Z := by rw [← g]; exact R.2.1
  refine ⟨hm _ Z h4, ih (l.setIfInBounds j true) a' Z r (L.set F) (ready_mono s (Ne.symm d)) R.1 h4 ?_⟩
  rw [← g]
  exact R.2.2
end
def PX (P : Program) (n : Nat) (ops : Array Oper) (Q : sm) (S : Array Bool → World → Prop) (fuel : Nat) (listed : Array Bool) (E : Nat → Value) (W : World) : Prop :=
 yz ops listed → ∀ a, Ag n a E → LR P ops (lift n Q) S fuel listed a W
section
variable {P : Program} {n : Nat} {Q : sm} {E : Nat → Value} {W : World} {ops : Array Oper} {S : Array Bool → World → Prop} {fuel : Nat} {listed : Array Bool}
theorem JW {id : Nat} {l : List Oper} (S : Array Bool → World → Prop) (hm : P.follows .mixedOrders = true) (h : PX P n l.toArray Q S l.length (Array.replicate l.length false) E W.drew) : CW P n (.region id l.toArray true) Q E W := fun a ha =>
 wp_region_any hm (KY _ _ _ _ (h (yz.start _ (by simp)) a ha))
def Cv (ops : Array Oper) (listed : Array Bool) (i : Nat) : Bool := Region.noSelect ops && Region.free .any ops listed i && (Region.ready .any ops listed).contains i
theorem mJ {o : Oper} {dd : Nat} {v : Value} (i : Nat) (d : ops[i]? = some o) (hk : Cv ops listed i = true) (hw : lT n ops E o) (k : o.dst = some dd) (q : dd < n) (hm : ∀ l w, S (l.setIfInBounds i true) w → S l w) (j : S (listed.setIfInBounds i true) W) (r : ∀ l W, Gy ops i l → S l W → nx P E o W v W) (h : PX P n ops Q S fuel (listed.setIfInBounds i true) (pP E dd v) W) : PX P n ops Q S (fuel + 1) listed E W := fun c a ha => by
 simp only [Cv, bA] at hk
 have g : i ∈ Region.ready .any ops listed := by simpa using hk.2
 exact Ix d (Region.noSelect_spec hk.1.1) (fun _ _ _ h => h) hm fuel listed a W (Region.free_spec d hk.1.2) c g (.inl ⟨hw.of ha, fun l w hp b => by rw [ha.eval]; exact r l w hp b⟩) j (by rw [k]; exact h (c.set g) _ (ha.put q v))
theorem uI {A : Value → Prop} {o : Oper} {dd : Nat} (i : Nat) (d : ops[i]? = some o) (hk : Cv ops listed i = true) (hw : lT n ops E o) (c : o.dst = some dd) (g : dd < n) (hm : ∀ l w, S (l.setIfInBounds i true) w → S l w) (b : S (listed.setIfInBounds i true) W) (j : ∃ p, A p ∧ ∀ W, nx P E o W p W) (h : ∀ p, A p → PX P n ops Q S fuel (listed.setIfInBounds i true) (pP E dd p) W) : PX P n ops Q S (fuel + 1) listed E W := by
 obtain ⟨p, h1, a⟩ := j
 exact mJ i d hk hw c g hm b (fun _ W _ _ => a W) (h p h1)
theorem Lz {o : Oper} {dd : Nat} (i : Nat) (c : ops[i]? = some o) (hk : Cv ops listed i = true) (hw : ∀ a, Ag n a E → Region.wanted o (yielded ops a.tmps) = false) (j : o.dst = some dd) (k : dd < n) (hm : ∀ l w, S (l.setIfInBounds i true) w → S l w) (g : S (listed.setIfInBounds i true) W) (h : PX P n ops Q S fuel (listed.setIfInBounds i true) (pP E dd undef) W) : PX P n ops Q S (fuel + 1) listed E W := fun b a ha => by
 simp only [Cv, bA] at hk
 have d : i ∈ Region.ready .any ops listed := by simpa using hk.2
 exact Ix c (Region.noSelect_spec hk.1.1) (fun _ _ _ h => h) hm fuel listed a W (Region.free_spec c hk.1.2) b d (.inr ⟨hw a ha, rfl⟩) g (by rw [j]; exact h (b.set d) _ (ha.put k _))
theorem Tc {o : Oper} {dd j t : Nat} {want : Bool} (i : Nat) (k : ops[i]? = some o) (hk : Cv ops listed i = true) (g : o.guard = some (j, want)) (q : (ops[j]?).bind (·.dst) = some t) (s : t < n) (b : E t = .bool (!want)) (d : o.dst = some dd) (r : dd < n) (hm : ∀ l w, S (l.setIfInBounds i true) w → S l w) (c : S (listed.setIfInBounds i true) W) (h : PX P n ops Q S fuel (listed.setIfInBounds i true) (pP E dd undef) W) : PX P n ops Q S (fuel + 1) listed E W :=
 Lz i k hk (fun a ha => by have u := ha.yield q s b; simp [Region.wanted, g, u]) d r hm c h
theorem Ri {o : Oper} {dd j t : Nat} {want : Bool} (i : Nat) (k : ops[i]? = some o) (hk : Cv ops listed i = true) (g : o.guard = some (j, want)) (q : (ops[j]?).bind (·.dst) = some t) (s : t < n) (b : E t = undef) (d : o.dst = some dd) (r : dd < n) (hm : ∀ l w, S (l.setIfInBounds i true) w → S l w) (c : S (listed.setIfInBounds i true) W) (h : PX P n ops Q S fuel (listed.setIfInBounds i true) (pP E dd undef) W) : PX P n ops Q S (fuel + 1) listed E W :=
 Lz i k hk (fun a ha => by have u := ha.L7 q s b; simp [Region.wanted, g, u]) d r hm c h
theorem RA {o : Oper} {dd : Nat} (i : Nat) (t : ops[i]? = some o) (d : Region.ready .any ops listed = [i]) (hw : lT n ops E o) (k : o.dst = some dd) (l : dd < n) (h : oB P E o W fun v W' => S (listed.setIfInBounds i true) W' ∧ PX P n ops Q S fuel (listed.setIfInBounds i true) (pP E dd v) W') : PX P n ops Q S (fuel + 1) listed E W := fun g a ha => by
 have b : i ∈ Region.ready .any ops listed := by rw [d]; simp
 refine ⟨fun s => (by rw [s] at d; cases d), fun j q => ?_⟩
 rw [d] at q
 obtain rfl := bE.1 q
 unfold wpOp
 simp only [t]
 rw [aZ (hw.of ha)]
 refine .inl ?_
 unfold Oper.wp
 rw [ha.eval]
 rcases h with ⟨v, W', h1, c⟩ | ⟨W', h1, c⟩ | ⟨f, args, h1, c⟩
 ·rw [h1, iG]; exact ⟨c.1, by rw [k]; exact c.2 (g.set b) _ (ha.put l v)⟩
 ·rw [h1, iO]; exact ⟨c.1, by rw [k]; exact c.2 (g.set b) _ (ha.put l _)⟩
 ·rw [h1, iH]
  refine dJ c ?_
  rintro e u ⟨v, rfl, r⟩
  exact ⟨r.1, by simp only [k]; exact r.2 (g.set b) _ (ha.put l v)⟩
theorem SJ {o : Oper} (i : Nat) (s : ops[i]? = some o) (d : Region.ready .any ops listed = [i]) (hw : lT n ops E o) (k : o.dst = none) (h : oB P E o W fun _ W' => S (listed.setIfInBounds i true) W' ∧ PX P n ops Q S fuel (listed.setIfInBounds i true) E W') : PX P n ops Q S (fuel + 1) listed E W := fun g a ha => by
 have b : i ∈ Region.ready .any ops listed := by rw [d]; simp
 refine ⟨fun r => (by rw [r] at d; cases d), fun j l => ?_⟩
 rw [d] at l
 obtain rfl := bE.1 l
 unfold wpOp
 simp only [s]
 rw [aZ (hw.of ha)]
 refine .inl ?_
 unfold Oper.wp
 rw [ha.eval]
 rcases h with ⟨v, W', h1, c⟩ | ⟨W', h1, c⟩ | ⟨f, args, h1, c⟩
 ·rw [h1, iG, k]; exact ⟨c.1, c.2 (g.set b) _ (ha.An _)⟩
 ·rw [h1, iO, k]; exact ⟨c.1, c.2 (g.set b) _ (ha.An _)⟩
 ·rw [h1, iH]
  refine dJ c ?_
  rintro e t ⟨v, rfl, q⟩
  simp only [k]
  exact ⟨q.1, q.2 (g.set b) _ (ha.An _)⟩
theorem mM (c : Region.ready .any ops listed = []) (h : Q .normal E W) : PX P n ops Q S fuel listed E W := fun _ a ha => by
 cases fuel with
 | zero => exact ⟨c, E, ha, h⟩
 | succ f => exact ⟨fun _ => ⟨E, ha, h⟩, fun i b => by rw [c] at b; cases b⟩
theorem zY {p : Prop} {b : Bool} (a : b = true) (h : b = false) : p := by rw [a] at h; cases h
theorem nk {a : Array Bool} (b : listed = a) (h : PX P n ops Q S fuel a E W) : PX P n ops Q S fuel listed E W := by rw [b]; exact h
theorem Hc {o s : Oper} {d t : Nat} (i j : Nat) (I : ops[i]? = some o) (J : ops[j]? = some s) (r : Region.ready .any ops listed = [i, j]) (hw : lT n ops E o) (y : lT n ops E s) (g : o.dst = some d) (w : s.dst = some t) (l : d < n) (x : t < n) (h : oB P E o W fun v W' => S (listed.setIfInBounds i true) W' ∧ PX P n ops Q S fuel (listed.setIfInBounds i true) (pP E d v) W') (F : oB P E s W fun v W' => S (listed.setIfInBounds j true) W' ∧ PX P n ops Q S fuel (listed.setIfInBounds j true) (pP E t v) W') : PX P n ops Q S (fuel + 1) listed E W := fun u a ha => by
 have key : ∀ (k : Nat) (q : Oper) (e : Nat), ops[k]? = some q → k ∈ Region.ready .any ops listed → lT n ops E q → q.dst = some e → e < n → (oB P E q W fun v W' => S (listed.setIfInBounds k true) W' ∧ PX P n ops Q S fuel (listed.setIfInBounds k true) (pP E e v) W') →
   wpOp P ops (lift n Q) k (fun D z => S (listed.setIfInBounds k true) z ∧ LR P ops (lift n Q) S fuel (listed.setIfInBounds k true) D z) a W := by
  intro k q e hk b hw g l h
  unfold wpOp
  simp only [hk]
  rw [aZ (hw.of ha)]
  refine .inl ?_
  unfold Oper.wp
  rw [ha.eval]
  rcases h with ⟨v, W', h1, c⟩ | ⟨W', h1, c⟩ | ⟨f, args, h1, c⟩
  ·rw [h1, iG]; exact ⟨c.1, by rw [g]; exact c.2 (u.set b) _ (ha.put l v)⟩
  ·rw [h1, iO]; exact ⟨c.1, by rw [g]; exact c.2 (u.set b) _ (ha.put l _)⟩
  ·rw [h1, iH]
   refine dJ c ?_
   rintro e z ⟨v, rfl, A⟩
   exact ⟨A.1, by simp only [g]; exact A.2 (u.set b) _ (ha.put l v)⟩
 refine ⟨fun G => (by rw [G] at r; cases r), fun k hk => ?_⟩
 rw [r] at hk
 rcases aM.1 hk with rfl | hk
 ·exact key _ o d I (by rw [r]; simp) hw g l h
 ·obtain rfl := bE.1 hk
  exact key _ s t J (by rw [r]; simp) y w x F
theorem nf {l : Array Bool} {i j : Nat} {A : Prop} (a : Nat.beq i j = false) (h : (l.setIfInBounds i true).getD j true = false → A) : l.getD j true = false → A := fun b => h (by
 rw [kX true (fun e => by subst e; simp at a)]; exact b)
end
theorem BB.at {α : Type} {e : TypeId} {enc : α → List Value} {k : Nat} {v : Value} {l : List α} {R : List (Nat × Obj)} (h : lR e enc k v l R) (hk : ∀ x, (enc x).length = k) {p : Value} {i : Nat} (hp : BB R k p i) {x : α} (d : l[i]? = some x) : At (Ba R) p (enc x) := by
 obtain ⟨b, a, cap, rfl, rfl, _, _, _, _, rfl, c⟩ := BE h hk hp d
 exact ⟨b, i * k, a, e, (0, 0), rfl, by simp [Ba], c⟩
theorem vH.form {κ β : Type} {kenc : κ → Value} {vf : β → Value} {μ : lZ} {v : Value} {l : List (κ × β)} (h : vH kenc vf μ v l) : ∃ r, v = .map r := by
 rcases h with ⟨h, _⟩ | ⟨m, es, clock, h, _⟩
 ·exact ⟨_, h⟩
 ·exact ⟨_, h⟩
noncomputable def GW {β : Type} (l : List (ByteArray × β)) : Option (List ByteArray) :=
 open Classical in if (l.map (·.1)).Nodup ∧ (∀ p ∈ l, p.1.size ≤ maxLen) ∧ l.length * 16 ≤ 140737488355328 then some (vW (l.map (·.1))) else none
def NZ {κ κ2 β α : Type} (a : Nat) (mk : κ → κ2 → α) (l : List (κ × List (κ2 × β))) : Option (List α) :=
 if (l.flatMap (fun p => p.2.map (fun q => mk p.1 q.1))).length * a ≤ 140737488355328 ∧ (l.flatMap (fun p => p.2.map (fun q => mk p.1 q.1))).length ≤ maxLen then some (l.flatMap (fun p => p.2.map (fun q => mk p.1 q.1))) else none
section
variable {P : Program} {n : Nat} {Q : sm} {E : Nat → Value} {W : World} {ops : Array Oper} {rest : List Oper}
variable {dd : Bool} {α : Type} {enc : α → List Value} {k : Nat} {μ : lZ} {v : Value}
variable {d : Option Nat} {ty : TypeId} {pos : String} {af : Array Edge} {g : Option (Nat × Bool)} {F : Nat → Prop} {w : World} {L : List (Nat × Obj)}
def FR (enc : α → List Value) (k : Nat) : qp (List α) := fun μ ys x => ∃ v, ys = [v] ∧ Sl (Pl enc) k μ v x
theorem FR.mono (enc : α → List Value) (k : Nat) : G2 (FR enc k) := fun _ _ _ _ b ⟨v, h1, a⟩ => ⟨v, h1, a.mono (Pl.mono _) b⟩
inductive Ce (enc : α → List Value) (k : Nat) (μ : lZ) : List Value → List (List α) → Prop
 | nil : Ce enc k μ [] []
 | cons {v : Value} {x : List α} {vs : List Value} {l : List (List α)} : Sl (Pl enc) k μ v x → Ce enc k μ vs l → Ce enc k μ (v :: vs) (x :: l)
theorem Ce.length {vs : List Value} {l : List (List α)} (h : Ce enc k μ vs l) : vs.length = l.length := by
 induction h with
 | nil => rfl
 | cons _ _ ih => simp [ih]
theorem Ce.get {vs : List Value} {l : List (List α)} (h : Ce enc k μ vs l) : ∀ (i : Nat) (x : List α), l[i]? = some x → ∃ v, vs[i]? = some v ∧ Sl (Pl enc) k μ v x := by
 induction h with
 | nil => intro i x a; simp at a
 | cons h1 _ ih =>
  intro i x a
  cases i with
  | zero => simp at a; subst a; exact ⟨_, rfl, h1⟩
  | succ i => simpa using ih i x (by simpa using a)
theorem FR.lit {b m : Nat} {vs : List Value} {e : TypeId} {l : List (List α)} (hm : l.length = m) (d : m ≤ maxLen) (g : μ b = some (.cells vs.toArray e (0, 0))) (h : Ce enc k μ vs l) : Sl (FR enc k) 1 μ (.slice (some ⟨b, 0, none⟩) m m) l := by
 subst hm
 refine ⟨_, _, rfl, aT _, d, fun _ => ⟨b, 0, _, _, _, rfl, g, fun i x n => ?_⟩⟩
 obtain ⟨v, h1, c⟩ := h.get i x n
 refine ⟨[v], rfl, ⟨v, rfl, c⟩, fun j y a => ?_⟩
 cases j with
 | zero => simp at a; subst a; simpa using h1
 | succ j => simp at a
theorem Gm {k2 : Nat} {t e : TypeId} {x a : Operand} {s : IntKind} {i : Int} {l : List (List α)} {x0 : List α} (q : P.underlying t = some (.slice e)) (he : ∀ w, (sizeOf e).run P w = .ok 1 w) (r : lC E x = v) (k : lC E a = .int s i) (o : Sl (FR enc k2) 1 μ v l) (b : 0 ≤ i) (n : l[i.toNat]? = some x0) :
  ∃ p, (∃ v0, At μ p [v0] ∧ Sl (Pl enc) k2 μ v0 x0) ∧ ∀ W, nx P E ⟨d, .indexAddr t x a, ty, pos, af, g⟩ W p W := by
 obtain ⟨p, ys, h1, ⟨v0, rfl, c⟩, h, j⟩ := H3 (d := d) (ty := ty) (pos := pos) (af := af) (g := g) q he r k o b n
 exact ⟨p, ⟨v0, h, c⟩, j⟩
theorem JT {x : Operand} {t e : TypeId} (a : P.underlying t = some (.slice e)) (b : lC E x = .slice none 0 0) : nx P E ⟨d, .call ⟨.builtin .cap, #[x], #[t]⟩, ty, pos, af, g⟩ W (.int .i64 0) W := by
 show (do let d ← resolve (lC E) ⟨.builtin .cap, #[x], #[t]⟩ ty; invoke d.target d.args : Sem Next).run P W = _
 simp [resolve, invoke, builtin, Builtin.cap_, aU a, b, goInt]
theorem Sc {x y : Operand} {ats : Array TypeId} {k : IntKind} {a b : Int} (c : lC E x = .int k a) (h : lC E y = .int k b) :
  nx P E ⟨d, .call ⟨.builtin .max, #[x, y], ats⟩, ty, pos, af, g⟩ W (.int k (if b > a then b else a)) W := by
 show (do let d ← resolve (lC E) ⟨.builtin .max, #[x, y], ats⟩ ty; invoke d.target d.args : Sem Next).run P W = _
 simp [resolve, invoke, c, h, builtin, Builtin.max_, Builtin.max2]
theorem MY {t e : TypeId} {x ih : Operand} {h : IntKind} (b : P.underlying t = some (.slice e)) (he : ∀ w, (sizeOf e).run P w = .ok k w) (c : lC E x = .slice none 0 0) (a : lC E ih = .int h 0) :
  nx P E ⟨d, .slice t x none (some ih) none, ty, pos, af, g⟩ W (.slice none 0 0) W := by
 show (do pure (.value (← Instr.sliceAt t (lC E x) none (some (lC E ih)) none)) : Sem Next).run P W = _
 rw [c, a]
 simp [Instr.sliceAt, Instr.slice, Instr.sliceBounds, Instr.sliceBound, asIntOf, aU b, he W]
def HF {α : Type} (a : Nat) (z : α) (n : Int) : Option (List α) := if 0 < n ∧ n * a ≤ 140737488355328 ∧ n ≤ (maxLen : Int) then some (List.replicate n.toNat z) else none
theorem GN (t k ty e : TypeId) (i : TypeInfo) (z : Value) (v : P.underlying t = some (.slice e)) (j : P.underlying k = some (.int .i64)) (q : P.info? e = some i) (w : i.zero = some z) (n : Nat) (l : 0 < n) (u : 0 < i.size) (o : n ≤ 9223372036854775807) (c : n * i.bytes ≤ 140737488355328) (W : World) :
  (Builtin.append_ #[t, k] ty #[.slice none 0 0, .int .i64 (n : Int)]).run P W =
   .ok (.slice (some ⟨W.heap.size, 0, none⟩) n (grownCap W n 0 e)) (W.drew.alloc (.cells (Builtin.zeroCells z.cells n ++ Builtin.zeroCells z.cells (grownCap W n 0 e - n)) e)) := by
 have hw : IntKind.i64.wrap (n : Int) = (n : Int) := by unfold IntKind.wrap; simp [IntKind.bits, IntKind.signed]; omega
 have h1 : ¬ ((n : Int) < 0) := by omega
 have a : ¬ (281474976710656 < (n : Int) * i.bytes) := by
  have := Int.ofNat_le.2 c
  rw [Int.natCast_mul] at this
  omega
 have d : ¬ (n * i.size = 0) := fun h => by rcases Nat.mul_eq_zero.1 h with h | h <;> omega
 have r : n ≠ 0 := by omega
 have s : i.size ≠ 0 := by omega
 have b : ¬ (9223372036854775807 < (n : Int)) := by omega
 have g : ¬ (281474976710656 < Builtin.nextslicecap n 0 * i.bytes) := by rw [nextslicecap_zero l]; omega
 simp [Builtin.append_, aU v, aU j, sizeOf, typeInfo, zeroValue, q, w, asInt, asIntOf, hw, h1, a, r, b, g, Question.forced, run_firstCells_none, newRow, grownCap]
 exact fun h => absurd h d
theorem Jq {K : Value → World → Prop} {α : Type} {e t A : TypeId} {enc : α → List Value} {k q : Nat} {c : Value} {n : Int} {z : α} {r : List α} (X : List (Nat × Obj)) {Y : List (Nat × Obj)} {x y : Operand} {i : TypeInfo} (j : ST dd F w W μ (X ++ Y)) (hk : ∀ x, (enc x).length = k) (R : 0 < k) (ht : P.underlying t = some (.slice e)) (Z : P.underlying A = some (.int .i64)) (hi : P.info? e = some i) (hz : i.zero = some c) (U : i.size = k) (L : i.bytes = q) (hc : c.cells = (enc z).toArray) (hx : lC E x = .slice none 0 0) (hy : lC E y = .int .i64 n) (a : HF q z n = some r) (h : ∀ W' v' R', ST dd F w W' μ (X ++ (R' ++ Y)) → lR e enc k v' r R' → K v' W') : oB P E ⟨d, .call ⟨.builtin .append, #[x, y], #[t, A]⟩, ty, pos, af, g⟩ W K := by
 unfold HF at a
 split at a
 case isFalse => cases a
 rename_i J
 cases a
 obtain ⟨n, rfl⟩ : ∃ m : Nat, n = (m : Int) := ⟨n.toNat, by omega⟩
 have T : 0 < n := by omega
 subst U; subst L
 have hM : n ≤ maxLen := by omega
 have I : n ≤ 9223372036854775807 := by simp only [maxLen] at hM; omega
 have G : n * i.bytes ≤ 140737488355328 := Int.ofNat_le.1 (by rw [Int.natCast_mul]; exact J.2.1)
 have hr := GN (P := P) t A ty e i c ht Z hi hz n T R I G W
 have u : (execOp (lC E) ⟨d, .call ⟨.builtin .append, #[x, y], #[t, A]⟩, ty, pos, af, g⟩).run P W = .ok (.value (.slice (some ⟨W.heap.size, 0, none⟩) n (grownCap W n 0 e))) (W.drew.alloc (.cells (Builtin.zeroCells c.cells n ++ Builtin.zeroCells c.cells (grownCap W n 0 e - n)) e)) := by
  show (do let d ← resolve (lC E) ⟨.builtin .append, #[x, y], #[t, A]⟩ ty; invoke d.target d.args : Sem Next).run P W = _
  simp [resolve, invoke, builtin, hx, hy, hr]
 have O := pF _ _ _ _ hr
 refine .inl ⟨_, _, u, ?_⟩
 have Q := grownCap_ge W n 0 e
 have M : grownCap W n 0 e ≤ maxLen := jA W n 0 e hM
 have a1 : ∀ m, (Builtin.zeroCells c.cells m).toList = (List.replicate m (enc z)).flatten := fun m => by rw [hc, CY]
 have v : c.cells.size = i.size := by rw [hc, dU, hk]
 have l : lR e enc i.size (.slice (some ⟨W.heap.size, 0, none⟩) n (grownCap W n 0 e)) (List.replicate n z) [(W.heap.size, .cells (Builtin.zeroCells c.cells n ++ Builtin.zeroCells c.cells (grownCap W n 0 e - n)) e (0, 0))] := by
  refine .inr ⟨W.heap.size, grownCap W n 0 e, _, by rw [ja], rfl, by simpa using Q, M, ?_, ?_⟩
  ·simp only [Array.size_append, size_zeroCells, v, ← cO]
   congr 1
   omega
  ·have D : (Builtin.zeroCells c.cells n).toList.length = n * i.size := by rw [dA, size_zeroCells, v]
   rw [ja, Array.toList_append, ← D, List.take_left, a1, jC]
 refine h _ _ _ ?_ l
 have hex : Ex dd W (W.drew.alloc (.cells (Builtin.zeroCells c.cells n ++ Builtin.zeroCells c.cells (grownCap W n 0 e - n)) e)) := ⟨rfl, rfl, rfl, uJ.of O, by simp, fun b a => heap_alloc_old W.drew _ a⟩
 have h1 := j.Fm hex
 have s := h1.nd
 refine ⟨h1.os, h1.tape, h1.output, h1.drawn, h1.size, h1.nO, h1.mem, fun b o a => ?_, ?_⟩
 ·simp only [aR, bE] at a
  rcases a with a | a | a
  ·exact h1.box b o (by simp [a])
  ·cases a
   refine ⟨heap_alloc_new W.drew _, ?_, .inl j.size⟩
   cases hm : μ W.heap.size with
   | none => rfl
   | some x => have := j.DG hm; omega
  ·exact h1.box b o (by simp [a])
 ·simp only [cJ, bF, gL, gT] at s ⊢
  refine (iA fS).2 (dH.2 ⟨fun hm => ?_, s⟩)
  rw [← cJ] at hm
  obtain ⟨⟨b, o⟩, a, D⟩ := bD.1 hm
  have := j.Er a
  simp at D
  omega
end
theorem Tz {p : Prop} [Decidable p] {u : Unit} (h : rO (decide p) = some u) : p := gv (Ge h)
variable {dd : Bool}
section
variable {κ α : Type} {beq : κ → κ → Bool} {kenc : κ → Value} {t : TypeId} {enc : α → List Value}
variable {P : Program} {W : World} {kt : TypeId} {E : Nat → Value} {d : Option Nat} {ty : TypeId} {pos : String} {af : Array Edge} {g : Option (Nat × Bool)} {F : Nat → Prop} {w : World} {μ : lZ} {L : List (Nat × Obj)}
theorem KN {γ c : Type} {l : List (κ × γ)} {m : List (κ × c)} {k : κ} (h : l.findIdx? (fun p => beq k p.1) = m.findIdx? (fun p => beq k p.1)) : (mL beq l k).isSome = (mL beq m k).isSome := by
 rw [vx, vx, h]
 cases a : m.findIdx? (fun p => beq k p.1) with
 | none => rfl
 | some i =>
  obtain ⟨p, hp, _⟩ := rA a
  rw [a] at h
  obtain ⟨q, b, _⟩ := rA h
  simp [hp, b]
theorem CV {γ : Type} {Q : Value → γ → List (Nat × Obj) → Prop} {t e : TypeId} {m x : Operand} {i z : Value} {c : List (κ × Value)} {l : List (κ × γ)} {R : List (Nat × Obj)} {k : κ} (K : qf P kt kenc beq) (s : P.underlying t = some (.map kt e)) (v : ∀ w, (zeroValue e).run P w = .ok z w) (hm : lC E m = i) (u : lC E x = kenc k) (q : nP kenc Q i c l R) (r : ∀ b o, (b, o) ∈ R → W.heap[b]? = some o) : nx P E ⟨d, .lookup t m x true, ty, pos, af, g⟩ W (.tuple #[qt beq c k z, .bool (mL beq l k).isSome]) W := by
 obtain ⟨y, A, rfl, j, n⟩ := q
 have a := Mb (d := d) (ty := ty) (pos := pos) (af := af) (g := g) K s v hm u (j.at (μ := hp W) (fun b o h => r b o (cI _ h)))
 rw [KN (n.find k)] at a
 exact a
end
section
variable {P : Program} {fn : Func} {R : Ending → World → Prop} {E : Nat → Value} {W : World}
theorem sF {a : Tmp} {t0 : TypeId} {a0 : Addr} {v0 : Value} {b : Tmp} {v1 : Value} (d : fn.results = #[.cell a t0, .tmp b]) (c : E a = .pointer (some a0)) (i : (Instr.loadAt t0 (.pointer (some a0))).run P W = .ok v0 W) (h1 : E b = v1) (h : R (.returned (.tuple #[v0, v1])) W) : yU P fn R .ret E W :=
 ⟨.tuple #[v0, v1], fun tmps g => by
  have j : (loadVar t0 a0).run P W = .ok v0 W := by simpa [Instr.loadAt, Instr.sureAddr] using i
  simp [results, d, g, asAddr, c, j, h1], h⟩
end
end Go.Proofs.YtklbhegeiijbjaaGreat
namespace Go.Proofs.YtklbhegeiijbjaaGreat
open Go.RowKit
section
variable {x y : Nat × Obj} {A B C L R S : List (Nat × Obj)}
theorem Pz : (x :: A).Perm (x :: A) := .refl _
theorem Pb (h : A.Perm (x :: B)) : (y :: A).Perm (x :: y :: B) := (h.cons y).trans (.swap ..)
theorem Pr (h : A.Perm (x :: B)) : (S ++ A).Perm (x :: (S ++ B)) := (h.append_left S).trans fS
theorem Qz : (R ++ A).Perm (R ++ A) := .refl _
theorem Qb (h : A.Perm (R ++ B)) : (y :: A).Perm (R ++ (y :: B)) := (h.cons y).trans List.perm_middle.symm
theorem Qr (h : A.Perm (R ++ B)) : (S ++ A).Perm (R ++ (S ++ B)) := (h.append_left S).trans (gY S R B)
def nS (L L' : List (Nat × Obj)) : Prop := ∃ M, L.Perm (L' ++ M)
theorem Sn : nS L [] := ⟨L, .refl _⟩
theorem St : nS L L := ⟨[], by rw [bV]⟩
theorem Sb (h : L.Perm (x :: A)) (k : nS A B) : nS L (x :: B) := let ⟨M, m⟩ := k; ⟨M, h.trans (m.cons x)⟩
theorem Sr (h : L.Perm (R ++ A)) (k : nS A B) : nS L (R ++ B) := let ⟨M, m⟩ := k; ⟨M, by rw [aQ]; exact h.trans (m.append_left R)⟩
theorem Kb (k : nS A B) : nS (x :: A) (x :: B) := Sb Pz k
theorem Kr (k : nS A B) : nS (R ++ A) (R ++ B) := Sr Qz k
theorem Db (k : nS A B) : nS (x :: A) B := let ⟨M, m⟩ := k; ⟨x :: M, (m.cons x).trans List.perm_middle.symm⟩
theorem Dr (k : nS A B) : nS (R ++ A) B := let ⟨M, m⟩ := k; ⟨R ++ M, (m.append_left R).trans (gY R B M)⟩
theorem nS.mem (s : nS L A) : ∀ p, p ∈ A → p ∈ L := fun p hp => let ⟨M, m⟩ := s; m.mem_iff.2 (cI _ hp)
theorem ST.ll {dd : Bool} {F : Nat → Prop} {w W : World} {μ : lZ} (h : ST dd F w W μ L) (s : nS L A) : ST dd F w W μ A := let ⟨M, m⟩ := s; (h.perm m).sublist (List.sublist_append_left A M)
theorem pj.ll {μ : lZ} {W : World} (h : pj μ L W) (s : nS L A) : pj μ A W := h.sub (lP.refl _) s.mem
theorem pj.ox {μ μ' : lZ} {W : World} (h : pj μ L W) (a : lP μ' μ) (s : nS L A) : pj μ' A W := h.sub a s.mem
theorem Cn : L.Perm ([] ++ L) := .refl _
theorem Cb (h : L.Perm (x :: A)) (k : A.Perm (B ++ C)) : L.Perm ((x :: B) ++ C) := h.trans (k.cons x)
theorem Cr (h : L.Perm (R ++ A)) (k : A.Perm (B ++ C)) : L.Perm ((R ++ B) ++ C) := by rw [aQ]; exact h.trans (k.append_left R)
theorem C0 (k : L.Perm (B ++ C)) : L.Perm (([] ++ B) ++ C) := k
theorem Tn : ([] ++ A).Perm A := .refl _
theorem Tb (h : (A ++ B).Perm C) : ((x :: A) ++ B).Perm (x :: C) := h.cons x
theorem Tr (h : (A ++ B).Perm C) : ((R ++ A) ++ B).Perm (R ++ C) := by rw [aQ]; exact h.append_left R
theorem Nb (h : L.Perm (x :: A)) (k : A.Perm B) : L.Perm (x :: B) := h.trans (k.cons x)
theorem Nr (h : L.Perm (R ++ A)) (k : A.Perm B) : L.Perm (R ++ B) := h.trans (k.append_left R)
theorem Nz : L.Perm L := .refl _
theorem T4 {R' R1 : List (Nat × Obj)} (hp : R.Perm (R' ++ R1)) : (R ++ A).Perm (R' ++ (R1 ++ A)) := by rw [← aQ]; exact hp.append_right A
theorem Mh : x ∈ x :: A := .head _
theorem Mt (h : x ∈ A) : x ∈ y :: A := .tail _ h
theorem Ma (h : x ∈ A) : x ∈ R ++ A := eH _ h
theorem Ml (h : x ∈ R) : x ∈ R ++ A := cI _ h
end
section
variable {dd : Bool} {F : Nat → Prop} {w W : World} {μ : lZ} {L L0 L1 Y R : List (Nat × Obj)}
theorem ST.Py (h : ST dd mR w W μ L) (s : nS L L1) : uY dd [] L1 w W := let ⟨_, m⟩ := s; (h.perm m).SL
theorem ST.nF (h : ST dd (keys L0) w W μ L) (s : nS L L1) : uY dd L0 L1 w W := let ⟨_, m⟩ := s; (h.perm m).SS
theorem ST.Es : ∀ {R : List (Nat × Obj)} {μ : lZ}, ST dd F w W μ (R ++ Y) → ∃ μ', ST dd F w W μ' Y ∧ lP μ μ' ∧ Lo F w μ μ' ∧ ∀ b o, (b, o) ∈ R → μ' b = some o
 | [], μ, h => ⟨μ, h, lP.refl _, Lo.refl, fun _ _ h => by cases h⟩
 | (g, o) :: R, μ, h => by
  have c : ST dd F w W μ ([] ++ (g, o) :: (R ++ Y)) := h
  obtain ⟨μ', d, a2, a3, a4⟩ := ST.Es (R := R) (ST.Fu (A := []) c)
  refine ⟨μ', d, (ST.Fh (A := []) c).trans a2, (ST.Ki (A := []) c).trans a3, fun b i a => ?_⟩
  rcases aM.1 a with a | a
  ·cases a; exact a2 _ _ (aZ rfl)
  ·exact a4 b i a
theorem ST.EJ {α : Type} {e' : TypeId} {enc : α → List Value} {k : Nat} {v : Value} {l : List α} (a : ST dd F w W μ (R ++ Y)) (h : lR e' enc k v l R) (hk : ∀ x, (enc x).length = k) : ∃ μ', ST dd F w W μ' Y ∧ lP μ μ' ∧ Lo F w μ μ' ∧ Sl (Pl enc) k μ' v l := by
 obtain ⟨μ', b, a2, a3, a4⟩ := ST.Es a
 exact ⟨μ', b, a2, a3, h.sl hk a4⟩
section
variable {P : Program} {n : Nat} {Q : sm} {E : Nat → Value} {V : World} {id : Nat} {l : List Oper} {A B C : List (Nat × Obj)}
theorem mw (a : pj μ A V.drew) (hm : P.follows .mixedOrders = true) (h : PX P n l.toArray Q (fun _ W => pj μ A W) l.length (Array.replicate l.length false) E V.drew) : CW P n (.region id l.toArray true) Q E V := JW _ hm h
theorem vm (i : Nat) (a : pj μ A V.drew) (h1 : pj μ B V.drew) (hm : P.follows .mixedOrders = true) (h : PX P n l.toArray Q (fun l W => pj μ A W ∧ (l.getD i true = false → pj μ B W)) l.length (Array.replicate l.length false) E V.drew) : CW P n (.region id l.toArray true) Q E V := JW _ hm h
end
structure oT (μ : lZ) (L0 : List (Nat × Obj)) (w : World) : Prop where
 H : EX L0 w
 N : (L0.map (·.1)).Nodup
 S : lP μ (vv w L0)
theorem ST.N7 (h : oT μ L0 w) : ST dd (keys L0) w w μ L0 := (ST.R5 h.H h.N).ng h.S
end
section
variable {dd : Bool} {P : Program} {E : Nat → Value} {W : World} {d : Option Nat} {ty : TypeId} {pos : String} {af : Array Edge} {g : Option (Nat × Bool)} {F : Nat → Prop} {w : World} {μ : lZ} {L : List (Nat × Obj)}
theorem lL {K : Value → World → Prop} {B : List (Nat × Obj)} {t : TypeId} {x y : Operand} (v : Value) {b off : Nat} {cs : Array Value} {T : TypeId} (a : Array Value) (c : ST dd F w W μ ((b, .cells cs T (0, 0)) :: B)) (l : lC E x = .pointer (some ⟨b, off, none⟩)) (n : lC E y = v) (i : ∀ w, (sizeOf t).run P w = .ok v.cells.size w) (h1 : ∀ u ∈ v.cells.toList, u.oneCell' = true) (k : off + v.cells.size ≤ cs.size) (j : (cs.toList.take off ++ v.cells.toList ++ cs.toList.drop (off + v.cells.size)).toArray = a) (h : ∀ W', ST dd F w W' μ ((b, .cells a T (0, 0)) :: B) → K undef W') : oB P E ⟨d, .store t x y, ty, pos, af, g⟩ W K := Qh [] v a c l n i h1 k j h
end
section
variable {dd : Bool}
variable {P : Program} {n : Nat} {Q : sm} {E : Nat → Value} {W : World} {ops : Array Oper} {rest : List Oper}
 {d : Option Nat} {ty : TypeId} {pos : String} {af : Array Edge} {g : Option (Nat × Bool)}
 {F : Nat → Prop} {w : World} {μ : lZ} {L : List (Nat × Obj)}
theorem pq {K : Value → World → Prop} {α : Type} {e t : TypeId} {enc : α → List Value} {k a : Nat} {z v vs : Value} {l m r : List α} {R Y : List (Nat × Obj)} {x y : Operand} {i : TypeInfo} (b : ST dd F w W μ (R ++ Y)) (hk : ∀ x, (enc x).length = k) (j : 0 < k) (h1 : ∀ x, ∀ u ∈ enc x, u.oneCell' = true) (I : P.underlying t = some (.slice e)) (D : P.info? e = some i) (M : i.zero = some z) (o : z.cells.size = k) (n : i.size = k) (c : i.bytes = a) (J : lC E x = v) (L : lC E y = vs) (s : lR e enc k v l R) (G : Sl (Pl enc) k (hp W) vs m) (A : ol a l m = some r) (h : ∀ W' q R', ST dd F w W' μ (R' ++ Y) → lR e enc k q r R' → K q W') : oB P E ⟨d, .call ⟨.builtin .append, #[x, y], #[t, t]⟩, ty, pos, af, g⟩ W K :=
 JB [] b hk j h1 I D M o n c J L s G A h
end
section
variable {dd : Bool}
variable {P : Program} {E : Nat → Value} {W : World} {d : Option Nat} {ty : TypeId} {pos : String} {af : Array Edge} {g : Option (Nat × Bool)}
 {F : Nat → Prop} {w : World} {μ : lZ} {L : List (Nat × Obj)}
theorem GQ {K : Value → World → Prop} {α : Type} {e : TypeId} {enc : α → List Value} {k : Nat} {l : List α} {f : FuncId} {fv : Operand} {ax : Array Operand} {ats : Array TypeId} {caps : Array Value} {args : List Value} (Y : List (Nat × Obj)) (a : ST dd F w W μ Y) (c : lC E fv = .func (.func f) #[] caps) (he : ∀ args w, (callFunc f args).run P w = .ok (.enter f args) w) (ha : ax.map (lC E) ++ caps = args.toArray) (b : nR dd P f args W e enc k l) (h : ∀ W' v μ' R, ST dd F w W' μ' (R ++ Y) → lP μ μ' → Lo F w μ μ' → lR e enc k v l R → K v W') : oB P E ⟨d, .call ⟨.value fv, ax, ats⟩, ty, pos, af, g⟩ W K :=
 Mj [] Y a c he ha b h
end
section
variable {dd : Bool}
variable {P : Program} {E : Nat → Value} {W : World} {d : Option Nat} {ty : TypeId} {pos : String} {af : Array Edge} {g : Option (Nat × Bool)}
 {F : Nat → Prop} {w : World} {μ : lZ} {L : List (Nat × Obj)} {α : Type} {e' : TypeId} {enc : α → List Value} {k : Nat} {v : Value} {l : List α} {R : List (Nat × Obj)}
theorem xQ {K : Value → World → Prop} {Y : List (Nat × Obj)} {t : TypeId} {x y : Operand} {p u : Value} {i : Nat} {x0 x1 : α} (a : ST dd F w W μ (R ++ Y)) (h : lR e' enc k v l R) (hk : ∀ x, (enc x).length = k) (h1 : ∀ x, ∀ u ∈ enc x, u.oneCell' = true) (n : lC E x = p) (o : lC E y = u) (hu : u.cells = (enc x1).toArray) (hp : BB R k p i) (j : l[i]? = some x0) (c : ∀ w, (sizeOf t).run P w = .ok k w) (b : ∀ W' R', ST dd F w W' μ (R' ++ Y) → lR e' enc k v (l.set i x1) R' → K undef W') : oB P E ⟨d, .store t x y, ty, pos, af, g⟩ W K :=
 Ms [] a h hk h1 n o hu hp j c b
end
section
variable {dd : Bool}
variable {P : Program} {E : Nat → Value} {W : World} {d : Option Nat} {ty : TypeId} {pos : String} {af : Array Edge} {g : Option (Nat × Bool)}
 {F : Nat → Prop} {w : World} {μ : lZ} {L : List (Nat × Obj)} {α : Type} {e' : TypeId} {enc : α → List Value} {k : Nat} {v : Value} {l : List α} {R : List (Nat × Obj)}
theorem yA {K : Value → World → Prop} (z : α) {Y : List (Nat × Obj)} {t e : TypeId} {x : Operand} {u b : Value} {i : Nat} (a : ST dd F w W μ (R ++ Y)) (h : lR e' enc k v l R) (hk : ∀ x, (enc x).length = k) (h1 : ∀ x, ∀ u ∈ enc x, u.oneCell' = true) (n : P.underlying t = some (.slice e)) (q : ∀ w, (zeroValue e).run P w = .ok b w) (hu : Bs k v i u) (j : b.cells = (enc z).toArray) (o : lC E x = u) (c : ∀ W' R', ST dd F w W' μ (R' ++ Y) → lR e' enc k v (oZ l i z) R' → K (.tuple #[]) W') : oB P E ⟨d, .call ⟨.builtin .clear, #[x], #[t]⟩, ty, pos, af, g⟩ W K :=
 KS z [] a h hk h1 n q hu j o c
end
section
variable {dd : Bool}
variable {κ γ : Type} {Q : Value → γ → List (Nat × Obj) → Prop} {beq : κ → κ → Bool} {kenc : κ → Value}
variable {P : Program} {W : World} {kt : TypeId} {E : Nat → Value} {d : Option Nat} {ty : TypeId} {pos : String} {af : Array Edge} {g : Option (Nat × Bool)} {F : Nat → Prop} {w : World} {μ : lZ} {L : List (Nat × Obj)}
variable {κ2 β : Type} {kenc2 : κ2 → Value} {vf : β → Value} {beq2 : κ2 → κ2 → Bool} {kt2 : TypeId}
theorem M1 {c : Value → World → Prop} {Y R : List (Nat × Obj)} {t e : TypeId} {m x y : Operand} {j : Value} {b : List (κ × Value)} {l i : List (κ × List (κ2 × β))} {k : κ} {k2 : κ2} {v : β} (hk : ∀ {x y : κ}, beq x y = true → x = y) (K : qf P kt2 kenc2 beq2) (q : P.underlying t = some (.map kt2 e)) (a : ST dd F w W μ (R ++ Y)) (h : nP kenc (nr kenc2 vf) j b l R) (hm : lC E m = qt beq b k (.map none)) (r : lC E x = kenc2 k2) (s : lC E y = vf v) (o : Gi beq beq2 l k k2 v = some i) (n : ∀ W' R', ST dd F w W' μ (R' ++ Y) → nP kenc (nr kenc2 vf) j b i R' → c undef W') : oB P E ⟨d, .mapUpdate t m x y, ty, pos, af, g⟩ W c :=
 Oc [] hk K q a h hm r s o n
end
section
variable {dd : Bool}
variable {κ γ : Type} {Q : Value → γ → List (Nat × Obj) → Prop} {beq : κ → κ → Bool} {kenc : κ → Value}
variable {P : Program} {W : World} {kt : TypeId} {E : Nat → Value} {d : Option Nat} {ty : TypeId} {pos : String} {af : Array Edge} {g : Option (Nat × Bool)} {F : Nat → Prop} {w : World} {μ : lZ} {L : List (Nat × Obj)}
variable {κ2 β : Type} {kenc2 : κ2 → Value} {vf : β → Value} {beq2 : κ2 → κ2 → Bool} {kt2 : TypeId}
theorem IJ {c : Value → World → Prop} {Y R R2 : List (Nat × Obj)} {t e : TypeId} {m x y : Operand} {b : Value} {j : List (κ × Value)} {l i : List (κ × γ)} {k : κ} {u : Value} {z : γ} (K : qf P kt kenc beq) (r : P.underlying t = some (.map kt e)) (a : ST dd F w W μ (R ++ (R2 ++ Y))) (h : nP kenc Q b j l R) (hm : lC E m = b) (s : lC E x = kenc k) (v : lC E y = u) (q : Q u z R2) (o : D3 beq l k z = some i) (n : ∀ W' R', ST dd F w W' μ (R' ++ Y) → nP kenc Q b (pw beq j k u) i R' → c undef W') : oB P E ⟨d, .mapUpdate t m x y, ty, pos, af, g⟩ W c :=
 Nk [] K r a h hm s v q o n
end
section
variable {dd : Bool}
variable {κ γ : Type} {Q : Value → γ → List (Nat × Obj) → Prop} {beq : κ → κ → Bool} {kenc : κ → Value}
variable {P : Program} {W : World} {kt : TypeId} {E : Nat → Value} {d : Option Nat} {ty : TypeId} {pos : String} {af : Array Edge} {g : Option (Nat × Bool)} {F : Nat → Prop} {w : World} {μ : lZ} {L : List (Nat × Obj)}
theorem Re {c : Value → World → Prop} {Y R R1 : List (Nat × Obj)} {t e : TypeId} {m x y : Operand} {b : Value} {i : List (κ × Value)} {l : List (κ × γ)} {k : κ} {u : Value} {z : γ} (K : qf P kt kenc beq) (o : P.underlying t = some (.map kt e)) (a : ST dd F w W μ (R ++ (R1 ++ Y))) (h : MN beq kenc Q b i l k R) (hm : lC E m = b) (q : lC E x = kenc k) (r : lC E y = u) (n : Q u z R1) (j : ∀ W' R', ST dd F w W' μ (R' ++ Y) → nP kenc Q b (pw beq i k u) (pw beq l k z) R' → c undef W') : oB P E ⟨d, .mapUpdate t m x y, ty, pos, af, g⟩ W c :=
 Sg [] K o a h hm q r n j
end
section
variable {dd : Bool}
variable {κ γ : Type} {Q : Value → γ → List (Nat × Obj) → Prop} {beq : κ → κ → Bool} {kenc : κ → Value}
variable {P : Program} {W : World} {kt : TypeId} {E : Nat → Value} {d : Option Nat} {ty : TypeId} {pos : String} {af : Array Edge} {g : Option (Nat × Bool)} {F : Nat → Prop} {w : World} {μ : lZ} {L : List (Nat × Obj)}
theorem Mv {i : Value → World → Prop} {Y R : List (Nat × Obj)} {t e : TypeId} {m x : Operand} {c z : Value} {x0 : γ} {s : List (κ × Value)} {l : List (κ × γ)} {k : κ} (hk : ∀ {x y : κ}, beq x y = true ↔ x = y) (K : qf P kt kenc beq) (o : P.underlying t = some (.map kt e)) (r : ∀ w, (zeroValue e).run P w = .ok z w) (b : Q z x0 []) (a : ST dd F w W μ (R ++ Y)) (h : nP kenc Q c s l R) (hm : lC E m = c) (q : lC E x = kenc k) (n : ∀ W' v j R' R1, ST dd F w W' μ (R' ++ (R1 ++ Y)) → Q v ((mL beq l k).getD x0) R1 → I8 beq kenc Q c l k j R' → i (.tuple #[v, .int .i64 (j : Nat)]) W') : oB P E ⟨d, .mapEntry t m x, ty, pos, af, g⟩ W i :=
 MH [] hk K o r b a h hm q n
end
section
variable {dd : Bool}
variable {κ γ : Type} {Q : Value → γ → List (Nat × Obj) → Prop} {beq : κ → κ → Bool} {kenc : κ → Value}
variable {P : Program} {W : World} {kt : TypeId} {E : Nat → Value} {d : Option Nat} {ty : TypeId} {pos : String} {af : Array Edge} {g : Option (Nat × Bool)} {F : Nat → Prop} {w : World} {μ : lZ} {L : List (Nat × Obj)}
theorem Kq {i : Value → World → Prop} {Y R R1 : List (Nat × Obj)} {t e : TypeId} {m s y : Operand} {c u : Value} {z : γ} {l : List (κ × γ)} {k : κ} {j : Nat} (hk : ∀ {x y : κ}, beq x y = true ↔ x = y) (K : qf P kt kenc beq) (a : ST dd F w W μ (R ++ (R1 ++ Y))) (h : I8 beq kenc Q c l k j R) (hm : lC E m = c) (q : lC E s = .int .i64 (j : Nat)) (r : lC E y = u) (o : Q u z R1) (n : ∀ W' b R', ST dd F w W' μ (R' ++ Y) → nP kenc Q c b (pw beq l k z) R' → i undef W') : oB P E ⟨d, .entryStore t m s y, ty, pos, af, g⟩ W i :=
 Kt (e := e) [] hk K a h hm q r o n
end
section
variable {dd : Bool}
variable {α : Type} {e : TypeId} {enc : α → List Value} {k : Nat} {v : Value} {l : List α} {R : List (Nat × Obj)}
variable {P : Program} {W : World} {E : Nat → Value} {d : Option Nat} {ty : TypeId} {pos : String} {af : Array Edge} {g : Option (Nat × Bool)} {F : Nat → Prop} {w : World} {μ : lZ} {L : List (Nat × Obj)}
theorem KQ {K : Value → World → Prop} {t : TypeId} {a : Nat} {z vs : Value} {m r : List α} {Y : List (Nat × Obj)} {x y : Operand} {i : TypeInfo} (b : ST dd F w W μ (R ++ Y)) (hk : ∀ x, (enc x).length = k) (j : 0 < k) (h1 : ∀ x, ∀ u ∈ enc x, u.oneCell' = true) (I : P.underlying t = some (.slice e)) (D : P.info? e = some i) (M : i.zero = some z) (o : z.cells.size = k) (n : i.size = k) (c : i.bytes = a) (J : lC E x = v) (L : lC E y = vs) (s : rF e enc k v l R) (G : Sl (Pl enc) k (hp W) vs m) (A : ol a l m = some r) (h : ∀ W' q R', ST dd F w W' μ (R' ++ Y) → rF e enc k q r R' → K q W') : oB P E ⟨d, .call ⟨.builtin .append, #[x, y], #[t, t]⟩, ty, pos, af, g⟩ W K :=
 KO [] b hk j h1 I D M o n c J L s G A h
end
section
variable {P : Program} {n : Nat} {Q : sm} {E : Nat → Value} {W : World} {ops : Array Oper} {rest : List Oper}
variable {dd : Bool} {α : Type} {enc : α → List Value} {k : Nat} {μ : lZ} {v : Value}
variable {d : Option Nat} {ty : TypeId} {pos : String} {af : Array Edge} {g : Option (Nat × Bool)} {F : Nat → Prop} {w : World} {L : List (Nat × Obj)}
theorem Jw {K : Value → World → Prop} {α : Type} {e t q : TypeId} {enc : α → List Value} {k a : Nat} {u : Value} {n : Int} {z : α} {r : List α} {Y : List (Nat × Obj)} {x y : Operand} {i : TypeInfo} (b : ST dd F w W μ Y) (hk : ∀ x, (enc x).length = k) (j : 0 < k) (G : P.underlying t = some (.slice e)) (o : P.underlying q = some (.int .i64)) (D : P.info? e = some i) (L : i.zero = some u) (l : i.size = k) (c : i.bytes = a) (A : u.cells = (enc z).toArray) (I : lC E x = .slice none 0 0) (J : lC E y = .int .i64 n) (v : HF a z n = some r) (h : ∀ W' s R', ST dd F w W' μ (R' ++ Y) → lR e enc k s r R' → K s W') : oB P E ⟨d, .call ⟨.builtin .append, #[x, y], #[t, q]⟩, ty, pos, af, g⟩ W K :=
 Jq [] b hk j G o D L l c A I J v h
end
section
variable {P : Program} {n : Nat} {Q : sm} {E : Nat → Value} {W : World} {ops : Array Oper} {rest : List Oper}
variable {d j t : Nat} {want : Bool} {v : Value} {ins : Go.Op} {ty : TypeId} {pos : String} {af : Array Edge} {A : Value → Prop}
theorem V (b : nx P E ⟨some d, ins, ty, pos, af, none⟩ W v W) (h : LW P n ops Q rest (pP E d v) W) (a : d < n := by decide) : LW P n ops Q (⟨some d, ins, ty, pos, af, none⟩ :: rest) E W := HZ (.inl rfl) rfl a b h
theorem VE (h : oB P E ⟨some d, ins, ty, pos, af, none⟩ W fun v W' => LW P n ops Q rest (pP E d v) W') (a : d < n := by decide) : LW P n ops Q (⟨some d, ins, ty, pos, af, none⟩ :: rest) E W := Rj (.inl rfl) rfl a h
theorem VO (h : oB P E ⟨none, ins, ty, pos, af, none⟩ W fun _ W' => LW P n ops Q rest E W') : LW P n ops Q (⟨none, ins, ty, pos, af, none⟩ :: rest) E W := SU (.inl rfl) rfl h
theorem VQ (b : ∃ p, A p ∧ ∀ W, nx P E ⟨some d, ins, ty, pos, af, none⟩ W p W) (h : ∀ p, A p → LW P n ops Q rest (pP E d p) W) (a : d < n := by decide) : LW P n ops Q (⟨some d, ins, ty, pos, af, none⟩ :: rest) E W := TV (.inl rfl) rfl a b h
theorem Vg (b : (ops[j]?).bind (·.dst) = some t) (a : E t = .bool want) (g : nx P E ⟨some d, ins, ty, pos, af, some (j, want)⟩ W v W) (h : LW P n ops Q rest (pP E d v) W) (i : t < n := by decide) (c : d < n := by decide) : LW P n ops Q (⟨some d, ins, ty, pos, af, some (j, want)⟩ :: rest) E W := HZ (.inr ⟨j, want, t, rfl, b, i, a⟩) rfl c g h
theorem N4 (b : (ops[j]?).bind (·.dst) = some t) (a : E t = .bool want) (h : oB P E ⟨some d, ins, ty, pos, af, some (j, want)⟩ W fun v W' => LW P n ops Q rest (pP E d v) W') (g : t < n := by decide) (c : d < n := by decide) : LW P n ops Q (⟨some d, ins, ty, pos, af, some (j, want)⟩ :: rest) E W := Rj (.inr ⟨j, want, t, rfl, b, g, a⟩) rfl c h
theorem Vn (b : (ops[j]?).bind (·.dst) = some t) (a : E t = .bool (!want)) (h : LW P n ops Q rest (pP E d undef) W) (g : t < n := by decide) (c : d < n := by decide) : LW P n ops Q (⟨some d, ins, ty, pos, af, some (j, want)⟩ :: rest) E W := SI rfl c rfl b g a h
end
section
variable {P : Program} {n : Nat} {Q : sm} {E : Nat → Value} {W : World} {ops : Array Oper} {S : Array Bool → World → Prop} {fuel : Nat} {listed : Array Bool} {μ : lZ} {B : List (Nat × Obj)}
variable {d j t : Nat} {want : Bool} {v : Value} {ins : Go.Op} {ty : TypeId} {pos : String} {af : Array Edge} {A : Value → Prop}
theorem X (i : Nat) (b : ops[i]? = some ⟨some d, ins, ty, pos, af, none⟩) (a : S (listed.setIfInBounds i true) W) (g : ∀ {W}, nx P E ⟨some d, ins, ty, pos, af, none⟩ W v W) (h : PX P n ops Q S fuel (listed.setIfInBounds i true) (pP E d v) W) (hk : Cv ops listed i = true := by kernel_rfl) (hm : ∀ l w, S (l.setIfInBounds i true) w → S l w := by exact fun _ _ h => h) (c : d < n := by decide) : PX P n ops Q S (fuel + 1) listed E W := mJ i b hk (.inl rfl) rfl c hm a (fun _ _ _ _ => g) h
theorem XH (i : Nat) (b : ops[i]? = some ⟨some d, ins, ty, pos, af, none⟩) (a : pj μ B W) (g : ∀ W, pj μ B W → nx P E ⟨some d, ins, ty, pos, af, none⟩ W v W) (h : PX P n ops Q (fun _ W => pj μ B W) fuel (listed.setIfInBounds i true) (pP E d v) W) (hk : Cv ops listed i = true := by kernel_rfl) (c : d < n := by decide) : PX P n ops Q (fun _ W => pj μ B W) (fuel + 1) listed E W := mJ i b hk (.inl rfl) rfl c (fun _ _ h => h) a (fun _ W _ h => g W h) h
theorem XQ (i : Nat) (b : ops[i]? = some ⟨some d, ins, ty, pos, af, none⟩) (a : S (listed.setIfInBounds i true) W) (g : ∃ p, A p ∧ ∀ W, nx P E ⟨some d, ins, ty, pos, af, none⟩ W p W) (h : ∀ p, A p → PX P n ops Q S fuel (listed.setIfInBounds i true) (pP E d p) W) (hk : Cv ops listed i = true := by kernel_rfl) (hm : ∀ l w, S (l.setIfInBounds i true) w → S l w := by exact fun _ _ h => h) (c : d < n := by decide) : PX P n ops Q S (fuel + 1) listed E W := uI i b hk (.inl rfl) rfl c hm a g h
theorem XE (i : Nat) (a : ops[i]? = some ⟨some d, ins, ty, pos, af, none⟩) (h : oB P E ⟨some d, ins, ty, pos, af, none⟩ W fun v W' => S (listed.setIfInBounds i true) W' ∧ PX P n ops Q S fuel (listed.setIfInBounds i true) (pP E d v) W') (c : Region.ready .any ops listed = [i] := by kernel_rfl) (b : d < n := by decide) : PX P n ops Q S (fuel + 1) listed E W := RA i a c (.inl rfl) rfl b h
theorem XO (i : Nat) (a : ops[i]? = some ⟨none, ins, ty, pos, af, none⟩) (h : oB P E ⟨none, ins, ty, pos, af, none⟩ W fun _ W' => S (listed.setIfInBounds i true) W' ∧ PX P n ops Q S fuel (listed.setIfInBounds i true) E W') (b : Region.ready .any ops listed = [i] := by kernel_rfl) : PX P n ops Q S (fuel + 1) listed E W := SJ i a b (.inl rfl) rfl h
theorem Xg (i : Nat) (c : ops[i]? = some ⟨some d, ins, ty, pos, af, some (j, want)⟩) (g : (ops[j]?).bind (·.dst) = some t) (a : E t = .bool want) (b : S (listed.setIfInBounds i true) W) (q : ∀ {W}, nx P E ⟨some d, ins, ty, pos, af, some (j, want)⟩ W v W) (h : PX P n ops Q S fuel (listed.setIfInBounds i true) (pP E d v) W) (hk : Cv ops listed i = true := by kernel_rfl) (hm : ∀ l w, S (l.setIfInBounds i true) w → S l w := by exact fun _ _ h => h) (o : t < n := by decide) (k : d < n := by decide) : PX P n ops Q S (fuel + 1) listed E W := mJ i c hk (.inr ⟨j, want, t, rfl, g, o, a⟩) rfl k hm b (fun _ _ _ _ => q) h
theorem rE (i : Nat) (c : ops[i]? = some ⟨some d, ins, ty, pos, af, some (j, want)⟩) (g : (ops[j]?).bind (·.dst) = some t) (a : E t = .bool want) (b : pj μ B W) (o : ∀ W, pj μ B W → nx P E ⟨some d, ins, ty, pos, af, some (j, want)⟩ W v W) (h : PX P n ops Q (fun _ W => pj μ B W) fuel (listed.setIfInBounds i true) (pP E d v) W) (hk : Cv ops listed i = true := by kernel_rfl) (l : t < n := by decide) (k : d < n := by decide) : PX P n ops Q (fun _ W => pj μ B W) (fuel + 1) listed E W := mJ i c hk (.inr ⟨j, want, t, rfl, g, l, a⟩) rfl k (fun _ _ h => h) b (fun _ W _ h => o W h) h
theorem wo (i : Nat) (b : ops[i]? = some ⟨some d, ins, ty, pos, af, some (j, want)⟩) (c : (ops[j]?).bind (·.dst) = some t) (a : E t = .bool want) (h : oB P E ⟨some d, ins, ty, pos, af, some (j, want)⟩ W fun v W' => S (listed.setIfInBounds i true) W' ∧ PX P n ops Q S fuel (listed.setIfInBounds i true) (pP E d v) W') (k : Region.ready .any ops listed = [i] := by kernel_rfl) (l : t < n := by decide) (g : d < n := by decide) : PX P n ops Q S (fuel + 1) listed E W := RA i b k (.inr ⟨j, want, t, rfl, c, l, a⟩) rfl g h
theorem Xn (i : Nat) (c : ops[i]? = some ⟨some d, ins, ty, pos, af, some (j, want)⟩) (g : (ops[j]?).bind (·.dst) = some t) (a : E t = .bool (!want)) (b : S (listed.setIfInBounds i true) W) (h : PX P n ops Q S fuel (listed.setIfInBounds i true) (pP E d undef) W) (hk : Cv ops listed i = true := by kernel_rfl) (hm : ∀ l w, S (l.setIfInBounds i true) w → S l w := by exact fun _ _ h => h) (o : t < n := by decide) (k : d < n := by decide) : PX P n ops Q S (fuel + 1) listed E W := Tc i c hk rfl g o a rfl k hm b h
theorem Xu (i : Nat) (c : ops[i]? = some ⟨some d, ins, ty, pos, af, some (j, want)⟩) (g : (ops[j]?).bind (·.dst) = some t) (a : E t = undef) (b : S (listed.setIfInBounds i true) W) (h : PX P n ops Q S fuel (listed.setIfInBounds i true) (pP E d undef) W) (hk : Cv ops listed i = true := by kernel_rfl) (hm : ∀ l w, S (l.setIfInBounds i true) w → S l w := by exact fun _ _ h => h) (o : t < n := by decide) (k : d < n := by decide) : PX P n ops Q S (fuel + 1) listed E W := Ri i c hk rfl g o a rfl k hm b h
end
section
variable {α β γ : Type}
inductive qK (Q : α → β → Prop) : List α → List β → Prop
 | nil : qK Q [] []
 | cons {a : α} {b : β} {l : List α} {m : List β} : Q a b → qK Q l m → qK Q (a :: l) (b :: m)
namespace qK
variable {Q Q' : α → β → Prop}
theorem length {l : List α} {m : List β} (h : qK Q l m) : l.length = m.length := by
 induction h with
 | nil => rfl
 | cons _ _ ih => simp [ih]
theorem imp {l : List α} {m : List β} (h : qK Q l m) (c : ∀ a b, Q a b → Q' a b) : qK Q' l m := by
 induction h with
 | nil => exact .nil
 | cons h1 _ ih => exact .cons (c _ _ h1) ih
theorem get {l : List α} {m : List β} (h : qK Q l m) : ∀ {i : Nat} {b : β}, m[i]? = some b → ∃ a, l[i]? = some a ∧ Q a b := by
 induction h with
 | nil => intro i b c; simp at c
 | cons h1 _ ih =>
  intro i b c
  cases i with
  | zero => simp at c; subst c; exact ⟨_, rfl, h1⟩
  | succ i => simpa using ih (by simpa using c)
theorem append {l a : List α} {m b : List β} (h : qK Q l m) (c : qK Q a b) : qK Q (l ++ a) (m ++ b) := by
 induction h with
 | nil => exact c
 | cons h1 _ ih => exact .cons h1 ih
theorem set {l : List α} {m : List β} (h : qK Q l m) {a : α} {b : β} (d : Q a b) : ∀ i : Nat, qK Q (l.set i a) (m.set i b) := by
 induction h with
 | nil => intro i; exact .nil
 | cons h1 c ih =>
  intro i
  cases i with
  | zero => exact .cons d c
  | succ i => exact .cons h1 (ih i)
theorem take {l : List α} {m : List β} (h : qK Q l m) : ∀ i : Nat, qK Q (l.take i) (m.take i) := by
 induction h with
 | nil => intro i; simp; exact .nil
 | cons h1 _ ih =>
  intro i
  cases i with
  | zero => exact .nil
  | succ i => exact .cons h1 (ih i)
theorem drop {l : List α} {m : List β} (h : qK Q l m) : ∀ i : Nat, qK Q (l.drop i) (m.drop i) := by
 induction h with
 | nil => intro i; simp; exact .nil
 | cons h1 a ih =>
  intro i
  cases i with
  | zero => exact .cons h1 a
  | succ i => exact ih i
end qK
theorem CL {P : Nat → β → α → Prop} : ∀ {m : List β} (o : Nat), (∀ (i : Nat) (b : β), m[i]? = some b → ∃ a, P (o + i) b a) → ∃ l : List α, l.length = m.length ∧ ∀ (i : Nat) (b : β), m[i]? = some b → ∃ a, l[i]? = some a ∧ P (o + i) b a
 | [], _, _ => ⟨[], rfl, fun i b h => by simp at h⟩
 | b :: m, o, h => by
  obtain ⟨a, ha⟩ := h 0 b rfl
  obtain ⟨l, h1, g⟩ := CL (m := m) (o + 1) (fun i b j => by
   obtain ⟨a, ha⟩ := h (i + 1) b (by simpa using j)
   exact ⟨a, by rw [show o + 1 + i = o + (i + 1) by omega]; exact ha⟩)
  refine ⟨a :: l, by simp [h1], fun i c d => ?_⟩
  cases i with
  | zero => simp at d; subst d; exact ⟨a, rfl, ha⟩
  | succ i =>
   obtain ⟨x, k, hp⟩ := g i c (by simpa using d)
   exact ⟨x, by simpa using k, by rw [show o + (i + 1) = o + 1 + i by omega]; exact hp⟩
theorem qK.Of {Q : α → β → Prop} : ∀ {l : List α} {m : List β}, l.length = m.length → (∀ (i : Nat) (a : α) (b : β), l[i]? = some a → m[i]? = some b → Q a b) → qK Q l m
 | [], [], _, _ => .nil
 | [], _ :: _, h, _ => by cases h
 | _ :: _, [], h, _ => by cases h
 | a :: l, b :: m, h, c => .cons (c 0 a b rfl rfl) (qK.Of (by simpa using h) (fun i x y d g => c (i + 1) x y (by simpa using d) (by simpa using g)))
end
structure Deep {β : Type} (R : qp β) (k : Nat) : Prop where
 mono : G2 R
 len : ∀ {μ ys x}, R μ ys x → ys.length = k
 one : ∀ {μ ys x}, R μ ys x → ∀ u ∈ ys, u.oneCell' = true
abbrev xX (k : Nat) := {ys : List Value // ys.length = k ∧ ∀ u ∈ ys, u.oneCell' = true}
def wx {k : Nat} (c : xX k) : List Value := c.1
theorem AY {k : Nat} (x : xX k) : (wx x).length = k := x.2.1
theorem OE {k : Nat} (x : xX k) : ∀ u ∈ wx x, u.oneCell' = true := x.2.2
theorem Sl.xZ {α : Type} {R : qp α} {k : Nat} {μ : lZ} {v : Value} {l : List α} (h : Sl R k μ v l) : v.oneCell' = true := by
 obtain ⟨A, c, rfl, _⟩ := h; rfl
section
variable {β : Type} {Rl : qp β} {k : Nat} {μ μ' : lZ} {v : Value} {l : List β}
def Deep.cell (a : Deep Rl k) {ys : List Value} {x : β} (h : Rl μ ys x) : xX k := ⟨ys, a.len h, a.one h⟩
theorem Sl.raw (z : Deep Rl k) (h : Sl Rl k μ v l) : ∃ cl : List (xX k), Sl (Pl wx) k μ v cl ∧ qK (fun c x => Rl μ c.1 x) cl l := by
 obtain ⟨A, c, rfl, h1, s, u⟩ := h
 cases l with
 | nil => exact ⟨[], ⟨A, c, rfl, h1, s, fun h => absurd h (by simp)⟩, .nil⟩
 | cons x0 l =>
  obtain ⟨b, off, cs, T, fr, rfl, D, w⟩ := u (by simp)
  obtain ⟨cl, o, r⟩ := CL (P := fun i x (c : xX k) => Rl μ c.1 x ∧ ∀ j y, c.1[j]? = some y → cs[off + i * k + j]? = some y) (m := x0 :: l) 0 (fun i x q => by
   obtain ⟨ys, _, d, g⟩ := w i x q
   exact ⟨z.cell d, d, by rw [gp]; exact g⟩)
  refine ⟨cl, ⟨_, c, by rw [o], by omega, s, fun _ => ⟨b, off, cs, T, fr, rfl, D, fun i c n => ?_⟩⟩, qK.Of o (fun i c x n q => ?_)⟩
  ·have E : i < (x0 :: l).length := by rw [← o]; exact (bG.1 n).1
   obtain ⟨t, a, _, g⟩ := r i _ (cW E)
   rw [n] at a; cases a
   exact ⟨c.1, c.2.1, rfl, by rw [gp] at g; exact g⟩
  ·obtain ⟨t, a, d, _⟩ := r i x q
   rw [n] at a; cases a
   exact d
theorem Sl.NA {cl : List (xX k)} (h : Sl (Pl wx) k μ v cl) (u : lP μ μ') (ha : qK (fun c x => Rl μ' c.1 x) cl l) : Sl Rl k μ' v l := by
 obtain ⟨A, c, rfl, h1, n, o⟩ := h
 have a := ha.length
 refine ⟨A, c, by rw [a], by omega, n, fun y => ?_⟩
 obtain ⟨b, off, cs, T, fr, rfl, r, q⟩ := o (by omega)
 refine ⟨b, off, cs, T, fr, rfl, u _ _ r, fun i x w => ?_⟩
 obtain ⟨c, s, t⟩ := ha.get w
 obtain ⟨ys, d, g, j⟩ := q i c s
 cases g
 exact ⟨wx c, d, t, j⟩
def Dn (Rl : qp β) (k : Nat) (μ : lZ) (W : World) (v : Value) (l : List β) : Prop := ∃ cl : List (xX k), Sl (Pl wx) k (hp W) v cl ∧ qK (fun c x => Rl μ c.1 x) cl l
theorem Dn.sl (b : Deep Rl k) {W : World} (h : Sl Rl k μ v l) (c : lP μ (hp W)) : Dn Rl k μ W v l := by
 obtain ⟨cl, h1, a⟩ := h.raw b
 exact ⟨cl, h1.mono (Pl.mono _) c, a⟩
theorem Sl.OF {b m : Nat} {cl : List (xX k)} {cs : Array Value} {e : TypeId} (hm : cl.length = m) (a : m ≤ maxLen) (d : cs.toList = (cl.map wx).flatten) (c : μ b = some (.cells cs e (0, 0))) : Sl (Pl wx) k μ (.slice (some ⟨b, 0, none⟩) m m) cl := by
 subst hm
 refine ⟨_, _, rfl, aT _, a, fun _ => ⟨b, 0, _, _, _, rfl, c, fun i x g => ⟨wx x, AY x, rfl, fun j y h => ?_⟩⟩⟩
 have := wK AY cl i x g j y h
 rw [← d] at this
 simpa using this
inductive DE (Rl : qp β) (k : Nat) (μ : lZ) : List Value → List β → Prop
 | nil : DE Rl k μ [] []
 | cons {ys zs : List Value} {x : β} {l : List β} : Rl μ ys x → DE Rl k μ zs l → DE Rl k μ (ys ++ zs) (x :: l)
theorem DE.cells (b : Deep Rl k) {ys : List Value} (h : DE Rl k μ ys l) : ∃ cl : List (xX k), (cl.map wx).flatten = ys ∧ qK (fun c x => Rl μ c.1 x) cl l := by
 induction h with
 | nil => exact ⟨[], rfl, .nil⟩
 | cons h1 _ ih =>
  obtain ⟨cl, e, a⟩ := ih
  exact ⟨b.cell h1 :: cl, by rw [bF, bJ, e]; rfl, .cons h1 a⟩
theorem Dn.lit (d : Deep Rl k) {W : World} {b m : Nat} {ys : List Value} {e : TypeId} (h : DE Rl k μ ys l) (hm : l.length = m) (g : m ≤ maxLen) (i : W.heap[b]? = some (.cells ys.toArray e (0, 0))) : Dn Rl k μ W (.slice (some ⟨b, 0, none⟩) m m) l := by
 obtain ⟨cl, c, a⟩ := h.cells d
 exact ⟨cl, Sl.OF (by rw [a.length]; exact hm) g c.symm i, a⟩
theorem Sl.imp {R R' : qp β} (h : Sl R k μ v l) (r : ∀ ys x, R μ ys x → R' μ ys x) : Sl R' k μ v l := by
 obtain ⟨A, c, rfl, h1, a, d⟩ := h
 refine ⟨A, c, rfl, h1, a, fun s => ?_⟩
 obtain ⟨b, off, cs, T, fr, rfl, q, g⟩ := d s
 exact ⟨b, off, cs, T, fr, rfl, q, fun i x t => let ⟨ys, j, n, o⟩ := g i x t; ⟨ys, j, r _ _ n, o⟩⟩
theorem E7 : ∀ (l : List Nat) (n : Nat), n ∈ l → n ≤ l.foldr max 0
 | [], n, h => by cases h
 | a :: l, n, h => by
  rcases aM.1 h with rfl | h
  ·exact Nat.le_max_left _ _
  ·exact dM (E7 l n h) (Nat.le_max_right _ _)
theorem Sl.Td {R : qp β} {a : Nat → qp β} (h : Sl R k μ v l) (z : ∀ ys x, R μ ys x → ∃ n, a n μ ys x) (up : ∀ n m ys x, n ≤ m → a n μ ys x → a m μ ys x) : ∃ n, Sl (a n) k μ v l := by
 obtain ⟨A, c, rfl, h1, r, u⟩ := h
 by_cases s : 0 < l.length
 ·obtain ⟨b, off, cs, T, fr, rfl, D, w⟩ := u s
  obtain ⟨F, G, t⟩ := CL (P := fun i x (p : Nat × List Value) => p.2.length = k ∧ a p.1 μ p.2 x ∧ ∀ j y, p.2[j]? = some y → cs[off + i * k + j]? = some y) (m := l) 0 (fun i x q => by
   obtain ⟨ys, g, o, d⟩ := w i x q
   obtain ⟨n, E⟩ := z _ _ o
   exact ⟨(n, ys), g, E, by rw [gp]; exact d⟩)
  refine ⟨(F.map (·.1)).foldr max 0, _, c, rfl, h1, r, fun _ => ⟨b, off, cs, T, fr, rfl, D, fun i x q => ?_⟩⟩
  obtain ⟨p, hp, g, o, d⟩ := t i x q
  exact ⟨p.2, g, up _ _ _ _ (E7 _ _ (bD.2 ⟨p, dC hp, rfl⟩)) o, by rw [gp] at d; exact d⟩
 ·exact ⟨0, A, c, rfl, h1, r, fun h => absurd h s⟩
def mO (e : TypeId) (Rl : qp β) (k : Nat) (μ : lZ) (v : Value) (l : List β) (B : List (Nat × Obj)) : Prop := ∃ cl : List (xX k), lR e wx k v cl B ∧ qK (fun c x => Rl μ c.1 x) cl l
variable {e : TypeId} {B : List (Nat × Obj)}
theorem mO.mono (b : Deep Rl k) (h : mO e Rl k μ v l B) (c : lP μ μ') : mO e Rl k μ' v l B := by
 obtain ⟨cl, h1, a⟩ := h
 exact ⟨cl, h1, a.imp (fun _ _ h => b.mono _ _ _ _ c h)⟩
theorem mO.nil (e : TypeId) (Rl : qp β) (k : Nat) (μ : lZ) : mO e Rl k μ (.slice none 0 0) [] [] := ⟨[], lR.nil _ _ _, .nil⟩
theorem mO.lit (d : Deep Rl k) {b m : Nat} {ys : List Value} (h : DE Rl k μ ys l) (hm : l.length = m) (g : m ≤ maxLen) (i : ys.length = m * k) : mO e Rl k μ (.slice (some ⟨b, 0, none⟩) m m) l [(b, .cells ys.toArray e (0, 0))] := by
 obtain ⟨cl, c, a⟩ := h.cells d
 exact ⟨cl, lR.lit (by rw [a.length]; exact hm) g c.symm (by simpa using i), a⟩
theorem mO.form (h : mO e Rl k μ v l B) : ∃ A c, v = .slice A l.length c := by
 obtain ⟨cl, h1, a⟩ := h
 rw [← a.length]; exact h1.form
theorem mO.len (h : mO e Rl k μ v l B) : l.length ≤ 9223372036854775807 := by
 obtain ⟨cl, h1, a⟩ := h
 rw [← a.length]; exact h1.len
theorem mO.nd (h : mO e Rl k μ v l B) : (B.map (·.1)).Nodup := let ⟨_, h1, _⟩ := h; h1.nd
theorem mO.isNil {n c : Nat} (h : mO e Rl k μ (.slice none n c) l B) : l = [] := by
 obtain ⟨cl, h1, a⟩ := h
 have := a.length
 rw [h1.isNil] at this
 exact aV this.symm
theorem mO.sl (h : mO e Rl k μ v l B) (c : Deep Rl k) (d : lP μ μ') (hm : ∀ b o, (b, o) ∈ B → μ' b = some o) : Sl Rl k μ' v l := by
 obtain ⟨cl, h1, a⟩ := h
 exact Sl.NA (h1.sl AY hm) (lP.refl _) (a.imp (fun _ _ h => c.mono _ _ _ _ d h))
end
section
variable {β : Type} {Rl : qp β} {k : Nat} {μ : lZ} {v : Value} {l : List β} {e : TypeId} {B : List (Nat × Obj)}
variable {dd : Bool} {F : Nat → Prop} {w W : World} {L : List (Nat × Obj)}
theorem mO.Ts (h : mO e Rl k μ v l B) (b : Deep Rl k) (a : ST dd F w W μ L) (c : ∀ p, p ∈ B → p ∈ L) : Sl Rl k (hp W) v l := h.sl b a.lx (fun _ _ d => a.at_ (c _ d))
theorem ST.xi {Y : List (Nat × Obj)} (d : Deep Rl k) (a : ST dd F w W μ (B ++ Y)) (h : mO e Rl k μ v l B) : ∃ μ', ST dd F w W μ' Y ∧ lP μ μ' ∧ Lo F w μ μ' ∧ Sl Rl k μ' v l := by
 obtain ⟨cl, h1, c⟩ := h
 obtain ⟨μ', b, a2, a4, a3⟩ := ST.EJ a h1 AY
 exact ⟨μ', b, a2, a4, Sl.NA a3 (lP.refl _) (c.imp (fun _ _ h => d.mono _ _ _ _ a2 h))⟩
variable {P : Program} {E : Nat → Value} {d : Option Nat} {ty : TypeId} {pos : String} {af : Array Edge} {g : Option (Nat × Bool)}
theorem nM {t e' : TypeId} {x a : Operand} {y : IntKind} {i : Int} {x0 : β} {A : List Value → Prop} (q : ∀ {ys}, Rl μ ys x0 → A ys) (s : P.underlying t = some (.slice e')) (he : ∀ w, (sizeOf e').run P w = .ok k w) (u : lC E x = v) (n : lC E a = .int y i) (r : Sl Rl k μ v l) (b : 0 ≤ i) (o : l[i.toNat]? = some x0) :
  ∃ p, (∃ ys, A ys ∧ At μ p ys) ∧ ∀ W, nx P E ⟨d, .indexAddr t x a, ty, pos, af, g⟩ W p W := by
 obtain ⟨p, ys, _, c, h, j⟩ := H3 (d := d) (ty := ty) (pos := pos) (af := af) (g := g) s he u n r b o
 exact ⟨p, ⟨ys, q c, h⟩, j⟩
theorem zk {x : Operand} {t e' : TypeId} (a : P.underlying t = some (.slice e')) (b : lC E x = v) (h : mO e Rl k μ v l B) : nx P E ⟨d, .call ⟨.builtin .len, #[x], #[t]⟩, ty, pos, af, g⟩ W (.int .i64 l.length) W := by
 obtain ⟨A, c, rfl⟩ := h.form
 exact As a b
theorem nn {t e' : TypeId} {x j : Operand} {F : IntKind} {i : Int} {x0 : β} {A : List Value → Prop} (u : ∀ {ys}, Rl μ ys x0 → A ys) (z : P.underlying t = some (.slice e')) (he : ∀ w, (sizeOf e').run P w = .ok k w) (D : lC E x = v) (r : lC E j = .int F i) (h : mO e Rl k μ v l B) (n : 0 ≤ i) (s : l[i.toNat]? = some x0) :
  ∃ p, (∃ ys, A ys ∧ At (Ba B) p ys ∧ BB B k p i.toNat) ∧ ∀ W, nx P E ⟨d, .indexAddr t x j, ty, pos, af, g⟩ W p W := by
 obtain ⟨cl, h1, o⟩ := h
 obtain ⟨c, b, y⟩ := o.get s
 obtain ⟨p, a, q⟩ := oY (d := d) (ty := ty) (pos := pos) (af := af) (g := g) z he D r h1 n b
 exact ⟨p, ⟨c.1, u y, a.at h1 AY b, a⟩, q⟩
theorem OS {α d : Type} {a : Nat} {l m r : List α} {b c : List d} (h : ol a l m = some r) (h1 : b.length = l.length) (g : c.length = m.length) : ol a b c = some (b ++ c) ∧ r = l ++ m := by
 unfold ol at h ⊢
 rw [h1, g]
 split at h
 ·rename_i i; cases h; rw [aZ i]; exact ⟨rfl, rfl⟩
 ·cases h
theorem wm {K : Value → World → Prop} {t : TypeId} {a : Nat} {z vs : Value} {m r : List β} {Y : List (Nat × Obj)} {x y : Operand} {i : TypeInfo} (Z : Deep Rl k) (c : ST dd F w W μ (B ++ Y)) (o : 0 < k) (O : P.underlying t = some (.slice e)) (L : P.info? e = some i) (T : i.zero = some z) (s : z.cells.size = k) (q : i.size = k) (n : i.bytes = a) (Q : lC E x = v) (R : lC E y = vs) (I : mO e Rl k μ v l B) (M : Dn Rl k μ W vs m) (J : ol a l m = some r) (h : ∀ W' b R', ST dd F w W' μ (R' ++ Y) → mO e Rl k μ b r R' → K b W') : oB P E ⟨d, .call ⟨.builtin .append, #[x, y], #[t, t]⟩, ty, pos, af, g⟩ W K := by
 obtain ⟨cl, h1, u⟩ := I
 obtain ⟨U, G, A⟩ := M
 obtain ⟨j, rfl⟩ := OS J u.length A.length
 exact pq c AY o OE O L T s q n Q R h1 G j (fun W' b R' D a2 => h W' b R' D ⟨_, a2, u.append A⟩)
theorem sb {K : Value → World → Prop} {Y : List (Nat × Obj)} {t : TypeId} {x y : Operand} {p : Value} {i : Nat} {x0 x1 : β} {ys : List Value} (o : Deep Rl k) (a : ST dd F w W μ (B ++ Y)) (h : mO e Rl k μ v l B) (z : lC E x = p) (A : lC E y = .agg ys.toArray) (j : Rl μ ys x1) (hp : BB B k p i) (u : l[i]? = some x0) (r : ∀ w, (sizeOf t).run P w = .ok k w) (q : ∀ W' R', ST dd F w W' μ (R' ++ Y) → mO e Rl k μ v (l.set i x1) R' → K undef W') : oB P E ⟨d, .store t x y, ty, pos, af, g⟩ W K := by
 obtain ⟨cl, h1, b⟩ := h
 obtain ⟨c, s, _⟩ := b.get u
 exact xQ (x1 := o.cell j) a h1 AY OE z A rfl hp s r (fun W' R' n a2 => q W' R' n ⟨_, a2, b.set j i⟩)
end
end Go.Proofs.YtklbhegeiijbjaaGreat
namespace Go.Proofs.YtklbhegeiijbjaaGreat
open Go.RowKit
def nm (dd : Bool) (P : Program) (f : FuncId) (args : List Value) (w : World) (μ0 : lZ) (L0 : List (Nat × Obj)) (K : Value → List (Nat × Obj) → lZ → Prop) : Prop :=
 Calls P f args.toArray w fun e a => ∃ v L1 μ1, e = .returned v ∧ uY dd L0 L1 w a ∧ lP μ0 μ1 ∧ Lo (keys L0) w μ0 μ1 ∧ lP μ1 (vv a L1) ∧ K v L1 μ1
theorem nm.ng {dd : Bool} {P : Program} {f : FuncId} {args : List Value} {w : World} {μ0 : lZ} {L0 : List (Nat × Obj)} {K : Value → List (Nat × Obj) → lZ → Prop} (h : nm true P f args w μ0 L0 K) : nm dd P f args w μ0 L0 K :=
 dJ h fun _ _ ⟨v, L1, μ1, h1, a, b⟩ => ⟨v, L1, μ1, h1, a.ng, b⟩
section
variable {dd : Bool} {F : Nat → Prop} {w W W' : World} {μ μ1 : lZ} {L L0 L1 L2 : List (Nat × Obj)}
theorem ST.SB (h : ST dd F w W μ (L0 ++ L)) (g : uY dd L0 L1 W W') (i : Lo (keys L0) W μ μ1) (d : lP μ1 (vv W' L1)) : ST dd F w W' μ1 (L1 ++ L) := by
 have h1 := h.back g
 refine ⟨h1.os, h1.tape, h1.output, h1.drawn, h1.size, h1.nO, fun b o hm => ?_, fun b o a => ?_, h1.nd⟩
 ·have := d b o hm
  unfold vv at this
  split at this
  ·cases this
  ·exact this
 ·obtain ⟨j, l, k⟩ := h1.box b o a
  refine ⟨j, ?_, k⟩
  rcases aR.1 a with a | a
  ·cases hm : μ1 b with
   | none => rfl
   | some x =>
    have := d b x hm
    unfold vv at this
    rw [aZ ⟨o, a⟩] at this
    cases this
  ·have c := h.box b o (eH _ a)
   rw [i b (pb c.1) (Fl h.nd a)]
   exact c.2.1
variable {P : Program} {E : Nat → Value} {d : Option Nat} {ty : TypeId} {pos : String} {af : Array Edge} {g : Option (Nat × Bool)}
theorem Kv {K : Value → World → Prop} {K' : Value → List (Nat × Obj) → lZ → Prop} {f : FuncId} {fv : Operand} {ax : Array Operand} {ats : Array TypeId} {caps : Array Value} {args : List Value} (L0 L2 : List (Nat × Obj)) (a : ST dd F w W μ L) (c : L.Perm (L0 ++ L2)) (x : lC E fv = .func (.func f) #[] caps) (he : ∀ args w, (callFunc f args).run P w = .ok (.enter f args) w) (ha : ax.map (lC E) ++ (#[] : Array Value) = args.toArray) (u : EX L0 W → (L0.map (·.1)).Nodup → lP μ (vv W L0) → (∀ b o, (b, o) ∈ L2 → vv W L0 b = some o) → nm dd P f (args ++ caps.toList) W μ L0 K') (h : ∀ W' v μ' L1, ST dd F w W' μ' (L1 ++ L2) → lP μ μ' → Lo F w μ μ' → K' v L1 μ' → K v W') : oB P E ⟨d, .call ⟨.value fv, ax, ats⟩, ty, pos, af, g⟩ W K := by
 have i : ax.map (lC E) = args.toArray := by simpa using ha
 refine CX (args := (args ++ caps.toList).toArray) x he (by rw [i]; simp) (dJ (u (a.held c) (a.Rr c) (a.Sd c) (a.LG c)) (fun _ W' ⟨v, L1, μ1, h1, k, l, j, n, r⟩ => ⟨v, h1, h W' v μ1 L1 ((a.perm c).SB k j n) l (fun b t s => j b (eW t a.size) (fun ⟨o, y⟩ => by
  rcases ((a.perm c).box b o (cI _ y)).2.2 with q | q
  ·omega
  ·exact s q)) r⟩))
end
section
variable {P : Program} {E : Nat → Value} {W : World} {d : Option Nat} {ty : TypeId} {pos : String} {af : Array Edge} {g : Option (Nat × Bool)}
 {dd : Bool} {F : Nat → Prop} {w : World} {μ : lZ} {L : List (Nat × Obj)}
theorem Ga {t e : TypeId} {C : Array Value} {b n c : Nat} (g : P.underlying t = some (.slice e)) (he : P.underlying e = some (.int .u8)) (d : W.heap[b]? = some (.cells C e (0, 0))) :
  (convert t t (.slice (some ⟨b, 0, none⟩) n c)).run P W = .ok (.slice (some ⟨b, 0, none⟩) n c) (W.freeze ⟨b, C.size, none⟩ 1) := by
 have a : W.shape? b = some (e, C.size) := by
  unfold World.shape?
  rw [d]
 simp [convert, aU g, aU he, markStringish, a]
theorem Jf {K : Value → World → Prop} {t e : TypeId} {x : Operand} {b m : Nat} {cs : Array Value} {l : List Int} (a : ST dd F w W μ ((b, .cells cs e (0, 0)) :: L)) (v : P.underlying t = some (.slice e)) (he : P.underlying e = some (.int .u8)) (q : lC E x = .slice (some ⟨b, 0, none⟩) m m) (s : cs.toList = (l.map (mj .u8)).flatten) (hm : l.length = m) (r : m ≤ maxLen) (h : ∀ W' μ', ST dd F w W' μ' L → lP μ μ' → Lo F w μ μ' → Sl (Pl (mj .u8)) 1 μ' (.slice (some ⟨b, 0, none⟩) m m) l → K (.slice (some ⟨b, 0, none⟩) m m) W') : oB P E ⟨d, .convert t t x, ty, pos, af, g⟩ W K := by
 subst hm
 have n := (a.box b _ (by simp : (b, Obj.cells cs e (0, 0)) ∈ (b, Obj.cells cs e (0, 0)) :: L)).1
 have u := pb n
 have c : (W.freeze ⟨b, cs.size, none⟩ 1).heap[b]? = some (.cells cs e (cs.size, cs.size + 1)) := by
  unfold World.freeze
  rw [aX (by decide)]
  simp only [dF, aS]
  rw [n]
  rfl
 have h1 : ST dd F w (W.freeze ⟨b, cs.size, none⟩ 1) μ ([] ++ (b, .cells cs e (cs.size, cs.size + 1)) :: L) := by
  refine ST.put (A := []) (o := .cells cs e (0, 0)) a ⟨?_, ?_, ?_, ?_, ?_⟩ (fun k hk => ?_) c
  all_goals (unfold World.freeze; rw [aX (by decide)])
  ·exact aT _
  ·simp
  ·simp only [dF]
   rw [aX (fun e => hk e.symm)]
 refine .inl ⟨_, _, ?_, h _ _ (ST.Fu (A := []) h1) (ST.Fh (A := []) h1) (ST.Ki (A := []) h1) ?_⟩
 ·show (do pure (.value (← convert t t (lC E x))) : Sem Next).run P W = _
  rw [q]
  simp only [cC, Ga v he n, bM, cV]
 ·refine ⟨_, _, rfl, aT _, r, fun _ => ⟨b, 0, cs, e, _, rfl, aZ rfl, fun i x q => ⟨_, rfl, rfl, fun j y z => ?_⟩⟩⟩
  have := wK (enc := mj .u8) (k := 1) (fun _ => rfl) l i x q j y z
  rw [← s] at this
  simpa using this
def Dw {α : Type} (a : Nat) (z : α) (n : Int) : Option (List α) := if 0 ≤ n ∧ (a : Int) * n ≤ 140737488355328 ∧ n ≤ (maxLen : Int) then some (List.replicate n.toNat z) else none
theorem H6 {α : Type} {enc : α → List Value} {k : Nat} (hk : ∀ x, (enc x).length = k) (a : 0 < k) (z : α) (n : Nat) : (madeCells (enc z).toArray (n * k)).toList = ((List.replicate n z).map enc).flatten := by
 apply List.ext_getElem
 ·rw [rp hk, dA, size_madeCells]; simp
 ·intro i h1 g
  rw [dA, size_madeCells] at h1
  have h : i / k < n := by rw [iY a]; exact h1
  have c : i % k < (enc z).length := by rw [hk]; exact Nat.mod_lt _ a
  have b := wK hk (List.replicate n z) (i / k) z (by rw [List.getElem?_replicate, aZ h]) (i % k) _ (cW c)
  rw [show i / k * k + i % k = i by rw [Nat.mul_comm]; exact Nat.div_add_mod i k] at b
  rw [cW g] at b
  have d := Option.some.inj b
  rw [d]
  simp only [madeCells, Array.getElem_toList, Array.getElem_map, Array.getElem_range, dU, hk]
  rw [getElem!_pos _ _ (by simpa using c)]
  simp
theorem KE {K : Value → World → Prop} {α : Type} {e t : TypeId} {enc : α → List Value} {k a : Nat} {b : Value} {n : Int} {j : IntKind} {z : α} {r : List α} {x y : Operand} {i : TypeInfo} (l : ST dd F w W μ L) (hk : ∀ x, (enc x).length = k) (s : 0 < k) (O : P.underlying t = some (.slice e)) (J : P.info? e = some i) (T : i.zero = some b) (u : i.size = k) (q : i.bytes = a) (I : b.cells = (enc z).toArray) (Q : lC E x = .int j n) (R : lC E y = .int j n) (c : Dw a z n = some r) (h : ∀ W' v R', ST dd F w W' μ (R' ++ L) → lR e enc k v r R' → K v W') : oB P E ⟨d, .makeSlice t x y, ty, pos, af, g⟩ W K := by
 unfold Dw at c
 split at c
 case isFalse => cases c
 rename_i o
 cases c
 obtain ⟨A, h1, D⟩ := o
 subst u; subst q
 have G : n.toNat ≤ maxLen := by omega
 have M := run_make (P := P) W t e i b O J T j j n n A (Int.le_refl _) (by omega) (by simp only [maxLen] at D; omega)
 refine .inl ⟨.slice (some ⟨W.heap.size, 0, none⟩) n.toNat n.toNat, W.alloc (.cells (madeCells b.cells (n.toNat * i.size)) e), ?_, h _ _ [(W.heap.size, .cells (madeCells b.cells (n.toNat * i.size)) e)] (l.alloc _) ?_⟩
 ·show (do pure (.value (← Instr.makeSlice t (lC E x) (lC E y))) : Sem Next).run P W = _
  rw [Q, R]
  simp only [cC, M, bM, cV]
 ·exact lR.lit (by rw [ja]) G (by rw [I]; exact H6 hk s z _) (by rw [size_madeCells])
end
section
variable {P : Program} {E : Nat → Value} {W : World} {d : Option Nat} {ty : TypeId} {pos : String} {af : Array Edge} {g : Option (Nat × Bool)}
theorem Sw {op : BinOp} {h n : TypeId} {x y : Operand} {k : IntKind} {a b : Int} {v : Value} (j : lC E x = .int k a) (l : lC E y = .int k b) (i : (match op with | .and => some (BitVec.ofInt k.bits a &&& BitVec.ofInt k.bits b) | .or => some (BitVec.ofInt k.bits a ||| BitVec.ofInt k.bits b) | .xor => some (BitVec.ofInt k.bits a ^^^ BitVec.ofInt k.bits b) | _ => none).map (fun (c : BitVec k.bits) => Value.int k (k.wrap c.toNat)) = some v) :
  nx P E ⟨d, .binOp op h x y n, ty, pos, af, g⟩ W v W := by
 show (do let r ← (do eqGuard op h x y (lC E x) (lC E y); binOp op h (lC E x) (lC E y)); pure (.value r) : Sem Next).run P W = _
 rw [j, l]
 cases op <;> simp at i <;> subst i <;> simp [eqGuard, binOp, Op.intBits]
end
theorem rj.xZ {κ γ : Type} {kenc : κ → Value} {Q : Value → γ → List (Nat × Obj) → Prop} {μ : lZ} {v : Value} {l : List (κ × γ)} (h : rj kenc Q μ v l) : v.oneCell' = true := by
 obtain ⟨a, R, h, _⟩ := h
 obtain ⟨m, rfl⟩ := h.form
 rfl
theorem vH.xZ {κ β : Type} {kenc : κ → Value} {vf : β → Value} {μ : lZ} {v : Value} {l : List (κ × β)} (h : vH kenc vf μ v l) : v.oneCell' = true := by
 obtain ⟨m, rfl⟩ := h.form
 rfl
section
variable {β : Type} {Rl : qp β} {k : Nat} {μ μ' : lZ} {v : Value} {x : Option β}
def vX (Rl : qp β) (μ : lZ) (v : Value) (x : Option β) : Prop := (v = .pointer none ∧ x = none) ∨ ∃ y ys, x = some y ∧ At μ v ys ∧ Rl μ ys y
theorem vX.nil : vX Rl μ (.pointer none) none := .inl ⟨rfl, rfl⟩
theorem vX.some {y : β} {ys : List Value} (h : At μ v ys) (a : Rl μ ys y) : vX Rl μ v (some y) := .inr ⟨y, ys, rfl, h, a⟩
theorem vX.mono (d : Deep Rl k) (h : vX Rl μ v x) (a : lP μ μ') : vX Rl μ' v x := by
 rcases h with h | ⟨y, ys, h1, b, c⟩
 ·exact .inl h
 ·exact .inr ⟨y, ys, h1, b.mono a, d.mono _ _ _ _ a c⟩
theorem vX.xZ (h : vX Rl μ v x) : v.oneCell' = true := by
 rcases h with ⟨rfl, _⟩ | ⟨y, ys, _, ⟨b, off, cs, T, fr, rfl, _⟩, _⟩ <;> rfl
variable {P : Program} {E : Nat → Value} {W : World} {d : Option Nat} {ty : TypeId} {pos : String} {af : Array Edge} {g : Option (Nat × Bool)}
theorem GY {k l e : TypeId} {a b : Operand} (c : P.underlying k = some (.pointer e)) (h : vX Rl μ v x) (i : lC E a = v) (j : lC E b = .pointer none) :
  nx P E ⟨d, .binOp .eql k a b l, ty, pos, af, g⟩ W (.bool x.isNone) W := by
 rcases h with ⟨rfl, rfl⟩ | ⟨y, ys, rfl, ⟨n, off, cs, T, fr, rfl, _⟩, _⟩
 ·exact tE (a := none) c i j
 ·exact tE (a := Option.some _) c i j
theorem IQ {a : Operand} {y : β} {A : List Value → Prop} (j : ∀ {ys}, Rl μ ys y → A ys) (h : vX Rl μ v x) (c : x = Option.some y) (k : lC E a = v) :
  ∃ p, (∃ ys, A ys ∧ At μ p ys) ∧ ∀ W, nx P E ⟨d, .nilCheck a, ty, pos, af, g⟩ W p W := by
 rcases h with ⟨_, rfl⟩ | ⟨z, ys, rfl, b, i⟩
 ·cases c
 ·cases c
  refine ⟨v, ⟨ys, j i, b⟩, fun W => ?_⟩
  obtain ⟨l, off, cs, T, fr, rfl, _⟩ := b
  exact nA k
end
end Go.Proofs.YtklbhegeiijbjaaGreat
