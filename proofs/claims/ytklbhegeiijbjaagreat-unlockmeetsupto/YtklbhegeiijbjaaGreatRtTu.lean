/- a part of a proof of UnlockMeets -/
import Derived.WalkKit
import Derived.WalkLawsBesides
import Derived.Maps.AppendAt
import Derived.OrdersHeld
import Derived.Laws.IdiomStrings
import Derived.Maps.RangeRun
import Derived.Lib.BytesEntry
import Derived.Lib.Bytealg
import Derived.Laws.Externs
import Derived.ChangeKeysEq
import Derived.Deep.AppendSrc
set_option linter.all false
namespace Go.Proofs.YtklbhegeiijbjaaGreat
open Go.RowKit
def aA := @Option.bind_some
def aB := @Bool.false_eq_true
def aC := @List.length_append
def aH := @Int.natCast_nonneg
def aI := @List.drop_length
def aJ := @List.length_cons
def aK := @List.append_assoc
def aM := @Nat.exists_eq_succ_of_ne_zero
def aN := @if_false
def aO := @List.mem_cons
def aP := @List.eq_nil_of_length_eq_zero
def aQ := @List.mem_append
def aR := @congrArg
def aS := @Nat.le_refl
def aU := @if_neg
def aV := @if_pos
def aW := @List.mem_singleton
def aX := @run_underlying
def aZ := @if_true
def bn := @Bool.and_eq_true
def bD := @Nat.lt_succ_self
def bE := @List.append_nil
def bF := @List.getElem?_eq_some_iff
def bG := @List.mem_map
def bH := @List.map_cons
def bI := @List.Perm.refl
def bJ := @List.nil_append
def bM := @List.flatten_cons
def bN := @beq_self_eq_true
def bO := @List.cons.injEq
def bP := @List.length_nil
def bQ := @Result.andThen_ok
def bR := @Bool.eq_iff_iff
def bU := @List.nodup_append
def bV := @Bool.not_true
def bW := @List.cons_append
def bX := @List.mem_append_left
def bZ := @Nat.mul_le_mul_right
def cA := @List.Perm.append_left
def cC := @List.map_append
def cF := @List.getElem?_eq_getElem
def cH := @decide_eq_true_eq
def cI := @Sem.run_bind
def cL := @Nat.add_mul
def cM := @List.mem_filter
def cN := @Array.getElem?_eq_some_iff
def cO := @List.pairwise_cons
def cP := @List.length_take
def cQ := @List.flatten_append
def cR := @List.length_map
def cT := @decide_true
def cV := @Bool.not_false
def cX := @decide_false
def cZ := @Calls.mono
def dl := @Array.length_toList
def dm := @List.pairwise_append
def dp := @List.size_toArray
def dq := @Nat.min_eq_left
def dt := @Sem.run_pure
def du := @Array.getElem?_toList
def dw := @List.flatten_nil
def dx := @List.take_of_length_le
def dy := @List.mem_of_getElem?
def dC := @List.mem_append_right
def dD := @List.eq_nil_or_concat
def dF := @List.nodup_cons
def dG := @List.not_mem_nil
def dH := @List.getElem?_map
def dI := @Int.toNat_natCast
def dJ := @Nat.le_trans
def dK := @List.getElem?_drop
def dL := @Addr.add_lit
def dN := @Option.map_some
def dO := @List.getElem?_take_of_lt
def dP := @List.getElem?_eq_none
def dQ := @List.ext_getElem?
def dS := @List.getElem?_take
def dT := @List.length_drop
def dW := @Array.getElem?_modify
def dY := @Bool.eq_false_or_eq_true
def dZ := @Nat.zero_add
def ec := @Nat.lt_of_lt_of_le
def ed := @Nat.eq_zero_or_pos
def ee := @List.length_eq_zero_iff
def ei := @List.findIdx?_eq_some_iff_getElem
def ej := @List.map_map
def eo := @DataW.trod_struct
def ep := @Classical.byContradiction
def er := @and_true
def et := @List.length_zipIdx
def eu := @Nat.add_assoc
def ev := @List.map_nil
def ey := @Bool.true_and
def eA := @List.sum_cons
def eC := @List.forall_mem_cons
def eF := @Array.getD_eq_getD_getElem?
def eH := @Nat.zero_le
def eL := @List.perm_middle
def eO := @List.take_append
def eP := @List.getElem_mem
def eS := @List.getElem?_append_right
def eT := @List.findIdx?_cons
def eV := @List.singleton_append
def eW := @List.perm_append_comm
def eX := @List.take_append_drop
def eY := @List.length_filter_le
def eZ := @List.concat_eq_append
def fa := @Array.getElem?_eq_getElem
def fc := @List.getElem?_set
def fe := @List.mem_cons_of_mem
def fk := @ByteArray.toList_eq
def fq := @Bool.not_eq_true
def ft := @List.any_eq_true
def fw := @Bool.or_eq_true
def fD := @List.length_mergeSort
def fE := @Function.comp_def
def fF := @List.pairwise_map
def fG := @List.perm_append_comm_assoc
def fH := @Bool.not_eq_true'
def fI := @List.getElem?_append
def fJ := @List.take_take
def fK := @Nat.eq_of_mul_eq_mul_right
def fL := @or_false
def fN := @List.perm_append_singleton
def fR := @Bool.not_not
def fS := @List.getElem?_append_left
def fT := @List.mem_of_find?_eq_some
def fU := @List.findIdx?_eq_none_iff
def fV := @List.Sublist.append
def fW := @List.Perm.nodup_iff
def fZ := @Oper.upon_value
def gd := @Oper.upon_enter
def gf := @List.find?_cons
def gi := @List.map_mergeSort
def gx := @eq_iff_iff
def gy := @List.find?_eq_none
def gz := @cell_of_row
def gA := @List.getElem?_cons_zero
def gB := @List.pairwise_mergeSort
def gE := @List.pairwise_singleton
def gF := @Oper.upon_skip
def gG := @List.drop_take
def gH := @List.findIdx?_map
def gI := @Option.some.injEq
def gJ := @List.Perm.append_right
def gK := @List.take_left
def gL := @of_decide_eq_true
def gM := @getElem!_pos
def gZ := @Nat.mul_le_mul
def ib := @List.flatMap_cons
def ie := @Nat.div_lt_iff_lt_mul
def ig := @List.length_replicate
def ij := @Array.getElem?_mapIdx
def iq := @List.mem_flatten
def ir := @Option.getD_some
def iw := @List.mem_flatMap
def iy := @List.filter_cons
def iE := @List.findIdx?_append
def iH := @List.length_set
def iK := @run_callFunc_extern
def iL := @List.mergeSort_perm
def iM := @List.flatMap_append
def iN := @List.take_length_add_append
def iR := @grownCap_le_maxLen
def iS := @List.map_replicate
def je := @run_equalIn_struct
def jf := @UInt8.toNat_lt
def jg := @Bool.and_assoc
def jh := @Bool.and_false
def ji := @decide_eq_true_iff
def jj := @Nat.le_succ
def jk := @run_storeCells_at
def jq := @UInt8.ofNat_toNat
def jr := @List.find?_append
def js := @ByteArray.ext
def jF := @Bool.false_or
def jG := @List.zipIdx_cons
def jJ := @List.append_inj'
def jK := @Nat.add_zero
def jL := @beq_iff_eq
def jQ := @List.foldl_cons
def jR := @List.find?_some
def jS := @Nat.one_mul
def jT := @getD_set_ne
def kc := @mem_ready
def oM (E : Nat → Value) (d : Nat) (v : Value) : Nat → Value := fun t => if t = d then v else E t
def kp (E : Nat → Value) : Operand → Value
 | .tmp t => E t
 | .const v => v
 | .global g => .pointer (some ⟨g, 0, none⟩)
 | .func f => .func (.func f) #[] #[]
def Ag (n : Nat) (a : Act) (E : Nat → Value) : Prop := a.tmps.size = n ∧ a.defers = [] ∧ ∀ t, a.tmps.getD t undef = E t
section
variable {n : Nat} {a : Act} {E : Nat → Value}
theorem Ag.eval (h : Ag n a E) : a.eval = kp E := by
 funext x
 cases x with
 | tmp t => exact h.2.2 t
 | const v => rfl
 | global g => rfl
 | func f => rfl
theorem Ag.put (h : Ag n a E) {d : Nat} (g : d < n) (v : Value) : Ag n (a.put (some d) v) (oM E d v) := by
 refine ⟨by simp [Act.put, h.1], h.2.1, fun t => ?_⟩
 have c := h.2.2 t
 simp only [Act.put, oM]
 by_cases b : t = d
 ·subst b
  simp [h.1, g]
 ·have : ¬ d = t := fun e => b e.symm
  rw [aU b, ← c]
  simp [eF, this]
theorem Ag.zH (h : Ag n a E) (v : Value) : Ag n (a.put none v) E := h
theorem Ag.yield (h : Ag n a E) {ops : Array Oper} {j t : Nat} {b : Bool} (d : (ops[j]?).bind (·.dst) = some t) (i : t < n) (k : E t = .bool b) : yielded ops a.tmps j = some b := by
 have c := h.2.2 t
 have g : a.tmps[t]? = some (E t) := by
  rw [← c]
  simp [eF, h.1, i]
 simp [yielded, d, g, k]
end
abbrev qX := Exit → (Nat → Value) → World → Prop
def lift (n : Nat) (Q : qX) : Exit → Act → World → Prop
 | .panic _, _, _ => False
 | .outgrown, _, _ => False
 | e, a, w => ∃ E, Ag n a E ∧ Q e E w
def CW (P : Program) (n : Nat) (c : Code) (Q : qX) (E : Nat → Value) (W : World) : Prop := ∀ a, Ag n a E → c.wp P (lift n Q) a W
def LW (P : Program) (n : Nat) (ops : Array Oper) (Q : qX) (l : List Oper) (E : Nat → Value) (W : World) : Prop := ∀ a, Ag n a E → wpList P ops (lift n Q) l a W
def qW (K : (Nat → Value) → World → Prop) (Q : qX) : qX
 | .normal, E, W => K E W
 | e, E, W => Q e E W
def xe (id : Nat) (Q : qX) : qX
 | .exit j, E, W => if j = id then Q .normal E W else Q (.exit j) E W
 | e, E, W => Q e E W
section
variable {P : Program} {n : Nat} {Q : qX} {E : Nat → Value} {W : World} {c x y : Code} {ops : Array Oper} {rest : List Oper} {o : Oper}
theorem HF {Q' : qX} (h : CW P n c Q E W) (g : ∀ e E W, Q e E W → Q' e E W) : CW P n c Q' E W := fun a ha =>
 wp_mono (h a ha) (fun e _ _ h => by
  cases e with
  | panic c => exact h
  | outgrown => exact h
  | _ => obtain ⟨E', b, d⟩ := h; exact ⟨E', b, g _ _ _ d⟩)
theorem kA (h : CW P n x (qW (fun E W => CW P n y Q E W) Q) E W) : CW P n (.seq x y) Q E W := fun a ha =>
 wp_seq (wp_mono (h a ha) (fun e c g h => by
  cases e with
  | normal => obtain ⟨E', b, d⟩ := h; exact d c b
  | _ => exact h))
theorem lE (h : Q .normal E W) : CW P n .skip Q E W := fun _ ha => wp_skip ⟨E, ha, h⟩
theorem kM (h : Q .ret E W) : CW P n .ret Q E W := fun _ ha => wp_ret ⟨E, ha, h⟩
theorem nf {id : Nat} (h : Q (.exit id) E W) : CW P n (.exit id) Q E W := fun _ ha => wp_exit ⟨E, ha, h⟩
theorem lR {id : Nat} (h : CW P n c (xe id Q) E W) : CW P n (.block id c) Q E W := fun a ha =>
 wp_block (wp_mono (h a ha) (fun e i k h => by
  cases e with
  | exit j =>
   obtain ⟨E', b, d⟩ := h
   simp only [Exit.inBlock]
   simp only [xe] at d
   split at d
   ·rename_i g; rw [aV g]; exact ⟨E', b, d⟩
   ·rename_i g; rw [aU g]; exact ⟨E', b, d⟩
  | _ => exact h))
theorem Mw {co : Operand} {b : Bool} (c : kp E co = .bool b) (g : b = true → CW P n x Q E W) (d : b = false → CW P n y Q E W) : CW P n (.cond co x y) Q E W := fun a ha => by
 refine wp_cond_split (t := b) (by rw [ha.eval]; exact c) (fun h => g h a ha) (fun h => d h a ha)
theorem vO {co : Operand} (a : kp E co = .bool true) (h : CW P n x Q E W) : CW P n (.cond co x y) Q E W := Mw a (fun _ => h) (fun h => by cases h)
theorem qZ {co : Operand} (a : kp E co = .bool false) (h : CW P n y Q E W) : CW P n (.cond co x y) Q E W := Mw a (fun h => by cases h) (fun _ => h)
theorem kB {id : Nat} {l : List Oper} (h : LW P n l.toArray Q l E W) : CW P n (.region id l.toArray false) Q E W := fun a ha => wp_region_lit (h a ha)
theorem kQ (h : Q .normal E W) : LW P n ops Q [] E W := fun _ ha => wpList_nil ⟨E, ha, h⟩
theorem IP {P : Program} {c : Code} {Q : Exit → Act → World → Prop} {a : Act} {w : World} (I : Nat → Act → World → Prop) (m : Nat) (t : I m a w) (round : ∀ m a w, I m a w → c.wp P (Exit.then (fun p q => ∃ v, v < m ∧ I v p q) Q) a w) : (Code.loop c).wp P Q a w := by
 intro b k cs
 have key : ∀ m a w, I m a w → ∃ e p q, Q e p q ∧ Arrives P (lone (b.at a (.code c :: .inLoop c :: k)) cs w) b k cs e p q := by
  intro m
  induction m using Nat.strongRecOn with
  | _ m ih =>
   intro a w z
   obtain ⟨e, g, h, j, d⟩ := round m a w z b (.inLoop c :: k) cs
   cases e with
   | normal =>
    obtain ⟨v, y, n⟩ := j
    obtain ⟨s, r, u, o, i⟩ := ih v y g h n
    exact ⟨s, r, u, o, .of_steps (Steps.trans d (.one step_inLoop)) i⟩
   | exit id => exact ⟨_, g, h, j, .pass (x := .inLoop c) rfl (fun _ _ => .inl (by simp)) d⟩
   | goto l => exact ⟨_, g, h, j, .pass (x := .inLoop c) rfl (fun _ _ => .inl (by simp)) d⟩
   | ret => exact ⟨_, g, h, j, .pass (x := .inLoop c) rfl (fun _ _ => .inl (by simp)) d⟩
   | panic A => exact ⟨_, g, h, j, .pass (x := .inLoop c) rfl (fun _ _ => .inl (by simp)) d⟩
   | outgrown => exact ⟨_, g, h, j, .pass (x := .inLoop c) rfl (fun _ _ => .inl (by simp)) d⟩
 obtain ⟨e, p, q, j, d⟩ := key m a w t
 exact ⟨e, p, q, j, .of_steps (.one step_loop) d⟩
theorem np (I : Nat → (Nat → Value) → World → Prop) (m : Nat) (b : I m E W) (round : ∀ m E W, I m E W → CW P n c (qW (fun E' W' => ∃ d, d < m ∧ I d E' W') Q) E W) : CW P n (.loop c) Q E W := fun a ha =>
 IP (fun m a w => ∃ E, Ag n a E ∧ I m E w) m ⟨E, ha, b⟩ (fun m a w ⟨E, ha, k⟩ =>
  wp_mono (round m E w k a ha) (fun e l o h => by
   cases e with
   | normal => obtain ⟨E', i, d, j, g⟩ := h; exact ⟨d, j, E', i, g⟩
   | _ => exact h))
def tz (n : Nat) (ops : Array Oper) (E : Nat → Value) (o : Oper) : Prop :=
 o.guard = none ∨ ∃ j want t, o.guard = some (j, want) ∧ (ops[j]?).bind (·.dst) = some t ∧ t < n ∧ E t = .bool want
theorem tz.of {a : Act} (h : tz n ops E o) (ha : Ag n a E) : Region.wanted o (yielded ops a.tmps) = true := by
 rcases h with h | ⟨j, want, t, c, d, g, b⟩
 ·simp [Region.wanted, h]
 ·simp [Region.wanted, c, ha.yield d g b]
theorem NN {d : Nat} {v : Value} {W' : World} (hw : tz n ops E o) (b : o.dst = some d) (c : d < n) (g : (execOp (kp E) o).run P W = .ok (.value v) W') (h : LW P n ops Q rest (oM E d v) W') : LW P n ops Q (o :: rest) E W := fun a ha => by
 unfold wpList
 rw [aV (hw.of ha)]
 refine .inl ?_
 unfold Oper.wp
 rw [ha.eval, g, fZ, b]
 exact h _ (ha.put c v)
theorem OM {W' : World} (hw : tz n ops E o) (b : o.dst = none) (c : (execOp (kp E) o).run P W = .ok .skip W') (h : LW P n ops Q rest E W') : LW P n ops Q (o :: rest) E W := fun a ha => by
 unfold wpList
 rw [aV (hw.of ha)]
 refine .inl ?_
 unfold Oper.wp
 rw [ha.eval, c, gF, b]
 exact h _ (ha.zH _)
theorem Pf {f : FuncId} {args : Array Value} {d : Nat} (hw : tz n ops E o) (c : o.dst = some d) (i : d < n) (j : (execOp (kp E) o).run P W = .ok (.enter f args) W) (h : Calls P f args W fun e b => ∃ v, e = .returned v ∧ LW P n ops Q rest (oM E d v) b) : LW P n ops Q (o :: rest) E W := fun a ha => by
 unfold wpList
 rw [aV (hw.of ha)]
 refine .inl ?_
 unfold Oper.wp
 rw [ha.eval, j, gd]
 refine h.mono ?_
 rintro e b ⟨v, rfl, g⟩
 simp only [c]
 exact g _ (ha.put i v)
theorem SB {d j t : Nat} {want : Bool} (c : o.dst = some d) (k : d < n) (g : o.guard = some (j, want)) (i : (ops[j]?).bind (·.dst) = some t) (l : t < n) (b : E t = .bool (!want)) (h : LW P n ops Q rest (oM E d undef) W) : LW P n ops Q (o :: rest) E W := fun a ha => by
 unfold wpList
 have m := ha.yield i l b
 rw [aU (by simp [Region.wanted, g, m])]
 rw [c]
 exact h _ (ha.put k _)
end
variable {dd : Bool}
abbrev kL := Nat → Option Obj
def hp (W : World) : kL := fun b => W.heap[b]?
def tu (dd : Bool) (a b : Nat) : Prop := dd = true → a ≤ b
theorem tu.of {dd : Bool} {a b : Nat} (h : a ≤ b) : tu dd a b := fun _ => h
theorem tu.trans {dd : Bool} {a b c : Nat} (h : tu dd a b) (k : tu dd b c) : tu dd a c := fun e => dJ (h e) (k e)
structure Ex (dd : Bool) (w W : World) : Prop where
 os : W.os = w.os
 tape : W.tape = w.tape
 output : W.output = w.output
 drawn : tu dd w.drawn W.drawn
 size : w.heap.size ≤ W.heap.size
 mR : ∀ b, b < w.heap.size → W.heap[b]? = w.heap[b]?
theorem Ex.refl (w : World) : Ex dd w w := ⟨rfl, rfl, rfl, tu.of (aS _), aS _, fun _ _ => rfl⟩
theorem Ex.trans {a b c : World} (h : Ex dd a b) (k : Ex dd b c) : Ex dd a c :=
 ⟨k.os.trans h.os, k.tape.trans h.tape, k.output.trans h.output, tu.trans h.drawn k.drawn, dJ h.size k.size, fun i d => (k.mR i (ec d h.size)).trans (h.mR i d)⟩
theorem Ex.drew (w : World) : Ex dd w w.drew := ⟨rfl, rfl, rfl, tu.of (jj _), aS _, fun _ _ => rfl⟩
theorem Ex.alloc (w : World) (o : Obj) : Ex dd w (w.alloc o) := ⟨rfl, rfl, rfl, tu.of (aS _), by show w.heap.size ≤ (w.heap.push o).size; simp, fun k hk => Below.heap_alloc w o k hk⟩
theorem Ex.lZ {w W : World} (h : Ex true w W) : Ex dd w W := ⟨h.os, h.tape, h.output, tu.of (h.drawn rfl), h.size, h.mR⟩
def kH (μ μ' : kL) : Prop := ∀ b o, μ b = some o → μ' b = some o
theorem kH.refl (μ : kL) : kH μ μ := fun _ _ h => h
theorem kH.trans {a b c : kL} (h : kH a b) (k : kH b c) : kH a c := fun x o d => k x o (h x o d)
structure ST (dd : Bool) (F : Nat → Prop) (w W : World) (μ : kL) (L : List (Nat × Obj)) : Prop where
 os : W.os = w.os
 tape : W.tape = w.tape
 output : W.output = w.output
 drawn : tu dd w.drawn W.drawn
 size : w.heap.size ≤ W.heap.size
 mR : ∀ b, b < w.heap.size → ¬ F b → W.heap[b]? = w.heap[b]?
 mem : ∀ b o, μ b = some o → W.heap[b]? = some o
 box : ∀ b o, (b, o) ∈ L → W.heap[b]? = some o ∧ μ b = none ∧ (w.heap.size ≤ b ∨ F b)
 nd : (L.map (·.1)).Nodup
def lM : Nat → Prop := fun _ => False
theorem ST.start (w : World) : ST dd lM w w (hp w) [] :=
 ⟨rfl, rfl, rfl, tu.of (aS _), aS _, fun _ _ _ => rfl, fun _ _ h => h, fun _ _ h => (by cases h), by simp⟩
section
variable {F : Nat → Prop} {w W W' : World} {μ μ' : kL} {L L' : List (Nat × Obj)}
theorem ST.ex (h : ST dd lM w W μ L) : Ex dd w W := ⟨h.os, h.tape, h.output, h.drawn, h.size, fun b a => h.mR b a (fun x => x)⟩
theorem Pv (W : World) (o : Obj) : (W.alloc o).heap[W.heap.size]? = some o := heap_alloc_new W o
theorem oy {W : World} {b : Nat} {o : Obj} (h : W.heap[b]? = some o) : b < W.heap.size := (cN.1 h).1
theorem ST.drew (h : ST dd F w W μ L) : ST dd F w W.drew μ L :=
 ⟨h.os, h.tape, h.output, tu.trans h.drawn (tu.of (jj _)), h.size, h.mR, h.mem, h.box, h.nd⟩
theorem ST.Es (h : ST dd F w W μ L) {b : Nat} {o : Obj} (a : (b, o) ∈ L) : b < W.heap.size := oy (h.box b o a).1
theorem ST.alloc (h : ST dd F w W μ L) (o : Obj) : ST dd F w (W.alloc o) μ ((W.heap.size, o) :: L) := by
 refine ⟨h.os, h.tape, h.output, h.drawn, dJ h.size (Ex.alloc (dd := true) W o).size, fun b a i => ?_, fun b c a => ?_, fun b c a => ?_, ?_⟩
 ·rw [(Ex.alloc (dd := true) W o).mR b (ec a h.size)]; exact h.mR b a i
 ·have := h.mem b c a
  rw [(Ex.alloc (dd := true) W o).mR b (oy this)]; exact this
 ·rcases aO.1 a with e | a
  ·cases e
   refine ⟨Pv W o, ?_, .inl h.size⟩
   cases hm : μ W.heap.size with
   | none => rfl
   | some x => have := oy (h.mem _ _ hm); omega
  ·obtain ⟨h1, d, g⟩ := h.box b c a
   exact ⟨by rw [(Ex.alloc (dd := true) W o).mR b (oy h1)]; exact h1, d, g⟩
 ·simp only [bH, dF]
  refine ⟨fun hm => ?_, h.nd⟩
  obtain ⟨⟨b, c⟩, a, e⟩ := bG.1 hm
  have := h.Es a
  simp at e
  omega
theorem ST.put {A B : List (Nat × Obj)} {b : Nat} {o m : Obj} (h : ST dd F w W μ (A ++ (b, o) :: B)) (s : W'.os = W.os ∧ W'.tape = W.tape ∧ W'.output = W.output ∧ W.drawn ≤ W'.drawn ∧ W'.heap.size = W.heap.size) (d : ∀ k, k ≠ b → W'.heap[k]? = W.heap[k]?) (t : W'.heap[b]? = some m) : ST dd F w W' μ (A ++ (b, m) :: B) := by
 obtain ⟨h1, n, p, q, r⟩ := s
 have c := h.box b o (by simp)
 have a := h.nd
 simp only [cC, bH] at a
 have g : ∀ x o, (x, o) ∈ A → x ≠ b := fun x o j e => by
  subst e
  have := (bU.1 a).2.2 x (bG.2 ⟨_, j, rfl⟩) x (by simp)
  exact this rfl
 have i : ∀ x o, (x, o) ∈ B → x ≠ b := fun x o j e => by
  subst e
  have := (dF.1 (bU.1 a).2.1).1
  exact this (bG.2 ⟨_, j, rfl⟩)
 refine ⟨h1.trans h.os, n.trans h.tape, p.trans h.output, tu.trans h.drawn (tu.of q), by rw [r]; exact h.size, fun k hk l => ?_, fun k x hk => ?_, fun k x hk => ?_, by simpa using a⟩
 ·rw [d k (fun e => by subst e; rcases c.2.2 with h | h; omega; exact l h)]
  exact h.mR k hk l
 ·rw [d k (fun e => by subst e; rw [c.2.1] at hk; cases hk)]
  exact h.mem k x hk
 ·rcases aQ.1 hk with hk | hk
  ·rw [d k (g k x hk)]; exact h.box k x (by simp [hk])
  ·rcases aO.1 hk with e | hk
   ·cases e; exact ⟨t, c.2⟩
   ·rw [d k (i k x hk)]; exact h.box k x (by simp [hk])
def Lo (F : Nat → Prop) (w : World) (μ μ' : kL) : Prop := ∀ b, b < w.heap.size → ¬ F b → μ' b = μ b
theorem Lo.refl {F : Nat → Prop} {w : World} {μ : kL} : Lo F w μ μ := fun _ _ _ => rfl
theorem Lo.trans {F : Nat → Prop} {w : World} {a b c : kL} (h : Lo F w a b) (k : Lo F w b c) : Lo F w a c := fun x g d => (k x g d).trans (h x g d)
def grow (μ : kL) (W W' : World) : kL := fun b => if b < W.heap.size then μ b else W'.heap[b]?
theorem ST.Dv (h : ST dd F w W μ L) {b : Nat} {o : Obj} (a : μ b = some o) : b < W.heap.size := oy (h.mem b o a)
theorem ST.call (h : ST dd F w W μ L) (c : Ex dd W W') : ST dd F w W' (grow μ W W') L := by
 refine ⟨c.os.trans h.os, c.tape.trans h.tape, c.output.trans h.output, tu.trans h.drawn c.drawn, dJ h.size c.size, fun b a j => ?_, fun b o a => ?_, fun b o a => ?_, h.nd⟩
 ·rw [c.mR b (ec a h.size)]; exact h.mR b a j
 ·unfold grow at a
  split at a
  ·rename_i d; rw [c.mR b d]; exact h.mem b o a
  ·exact a
 ·obtain ⟨h1, g, i⟩ := h.box b o a
  exact ⟨by rw [c.mR b (oy h1)]; exact h1, by unfold grow; rw [aV (oy h1)]; exact g, i⟩
theorem ST.Ou (h : ST dd F w W μ L) (W' : World) : kH μ (grow μ W W') := fun b o a => by
 unfold grow; rw [aV (h.Dv a)]; exact a
theorem ST.lZ (h : ST dd F w W μ' L) (c : kH μ μ') : ST dd F w W μ L :=
 ⟨h.os, h.tape, h.output, h.drawn, h.size, h.mR, fun b o a => h.mem b o (c b o a), fun b o a => by
  obtain ⟨h1, d, g⟩ := h.box b o a
  refine ⟨h1, ?_, g⟩
  cases hm : μ b with
  | none => rfl
  | some x => (have := c b x hm; rw [d] at this; cases this), h.nd⟩
theorem ST.Fg (h : ST dd F w W μ L) (a : Ex dd W W') : ST dd F w W' μ L := (h.call a).lZ (h.Ou W')
theorem ST.kw (h : ST dd F w W μ L) : kH μ (hp W) := h.mem
def Lr (μ : kL) (b : Nat) (o : Obj) : kL := fun k => if k = b then some o else μ k
theorem ST.HY {A B : List (Nat × Obj)} {b : Nat} {o : Obj} (h : ST dd F w W μ (A ++ (b, o) :: B)) : ST dd F w W (Lr μ b o) (A ++ B) := by
 have d := h.box b o (by simp)
 have a := h.nd
 simp only [cC, bH] at a
 have i : ∀ x y, (x, y) ∈ A ++ B → x ≠ b := fun x y c e => by
  subst e
  rcases aQ.1 c with c | c
  ·exact (bU.1 a).2.2 x (bG.2 ⟨_, c, rfl⟩) x (by simp) rfl
  ·exact (dF.1 (bU.1 a).2.1).1 (bG.2 ⟨_, c, rfl⟩)
 refine ⟨h.os, h.tape, h.output, h.drawn, h.size, h.mR, fun k x hk => ?_, fun k x hk => ?_, ?_⟩
 ·unfold Lr at hk
  split at hk
  ·rename_i e; cases hk; rw [e]; exact d.1
  ·exact h.mem k x hk
 ·have g : (k, x) ∈ A ++ (b, o) :: B := by
   rcases aQ.1 hk with h | h <;> simp [h]
  obtain ⟨h1, j, l⟩ := h.box k x g
  exact ⟨h1, by unfold Lr; rw [aU (i k x hk)]; exact j, l⟩
 ·have : (A ++ B).Sublist (A ++ (b, o) :: B) := fV (List.Sublist.refl A) (List.sublist_cons_self _ _)
  exact List.Nodup.sublist (this.map _) h.nd
theorem ST.HE {A B : List (Nat × Obj)} {b : Nat} {o : Obj} (h : ST dd F w W μ (A ++ (b, o) :: B)) : kH μ (Lr μ b o) := fun k x hk => by
 unfold Lr
 split
 ·rename_i e; subst e; rw [(h.box k o (by simp)).2.1] at hk; cases hk
 ·exact hk
theorem ST.N1 {A B : List (Nat × Obj)} {b : Nat} {o : Obj} (h : ST dd F w W μ (A ++ (b, o) :: B)) : Lo F w μ (Lr μ b o) := fun k hk c => by
 refine aU (fun e => ?_)
 subst e
 rcases (h.box k o (by simp)).2.2 with a | a
 ·omega
 ·exact c a
theorem ST.drop {A B : List (Nat × Obj)} {p : Nat × Obj} (h : ST dd F w W μ (A ++ p :: B)) : ST dd F w W μ (A ++ B) :=
 (h.HY (b := p.1) (o := p.2)).lZ h.HE
end
abbrev pW (α : Type) := kL → List Value → α → Prop
def Sl {α : Type} (R : pW α) (k : Nat) (μ : kL) (v : Value) (l : List α) : Prop :=
 ∃ A c, v = .slice A l.length c ∧ l.length ≤ c ∧ c ≤ maxLen ∧ (0 < l.length → ∃ b off cs T fr, A = some ⟨b, off, none⟩ ∧ μ b = some (.cells cs T fr) ∧
  ∀ i x, l[i]? = some x → ∃ ys, ys.length = k ∧ R μ ys x ∧ ∀ j y, ys[j]? = some y → cs[off + i * k + j]? = some y)
def At (μ : kL) (v : Value) (ys : List Value) : Prop :=
 ∃ b off cs T fr, v = .pointer (some ⟨b, off, none⟩) ∧ μ b = some (.cells cs T fr) ∧ ∀ j y, ys[j]? = some y → cs[off + j]? = some y
def Fr (B : Nat) (v : Value) : Prop := ∀ b, v.ownBlock = some b → B ≤ b
def GP {α : Type} (R : pW α) : Prop := ∀ μ μ' ys x, kH μ μ' → R μ ys x → R μ' ys x
def Pl {α : Type} (enc : α → List Value) : pW α := fun _ ys x => ys = enc x
theorem Pl.mono {α : Type} (enc : α → List Value) : GP (Pl enc) := fun _ _ _ _ _ h => h
theorem Sl.mono {α : Type} {R : pW α} (s : GP R) {k : Nat} {μ μ' : kL} {v : Value} {l : List α} (h : Sl R k μ v l) (d : kH μ μ') : Sl R k μ' v l := by
 obtain ⟨A, c, h1, g, j, m⟩ := h
 refine ⟨A, c, h1, g, j, fun t => ?_⟩
 obtain ⟨b, off, cs, T, fr, n, o, p⟩ := m t
 exact ⟨b, off, cs, T, fr, n, d _ _ o, fun i x u => let ⟨ys, q, r, a⟩ := p i x u; ⟨ys, q, s _ _ _ _ d r, a⟩⟩
theorem At.mono {μ μ' : kL} {v : Value} {ys : List Value} (h : At μ v ys) (d : kH μ μ') : At μ' v ys := by
 obtain ⟨b, off, cs, T, fr, h1, a, c⟩ := h
 exact ⟨b, off, cs, T, fr, h1, d _ _ a, c⟩
theorem Sl.len {α : Type} {R : pW α} {k : Nat} {μ : kL} {v : Value} {l : List α} (h : Sl R k μ v l) : l.length ≤ 9223372036854775807 := by
 obtain ⟨A, c, h1, b, a, d⟩ := h
 unfold maxLen at a
 omega
theorem Sl.nil {α : Type} (R : pW α) (k : Nat) (μ : kL) : Sl R k μ (.slice none 0 0) [] := ⟨none, 0, rfl, aS _, by decide, fun h => absurd h (by simp)⟩
theorem Fr.mono {B B' : Nat} {v : Value} (h : Fr B v) (a : B' ≤ B) : Fr B' v := fun b c => dJ a (h b c)
theorem Fr.nil (B : Nat) : Fr B (.slice none 0 0) := fun b a => by simp [Value.ownBlock] at a
end Go.Proofs.YtklbhegeiijbjaaGreat
namespace Go.Proofs.YtklbhegeiijbjaaGreat
open Go.RowKit
variable {dd : Bool}
section
variable {P : Program} {n : Nat} {Q : qX} {E : Nat → Value} {W : World} {ops : Array Oper} {rest : List Oper}
 {d : Option Nat} {ty : TypeId} {pos : String} {af : Array Edge} {g : Option (Nat × Bool)}
 {F : Nat → Prop} {w : World} {μ : kL} {L : List (Nat × Obj)}
def mx (P : Program) (E : Nat → Value) (o : Oper) (W : World) (v : Value) (W' : World) : Prop := (execOp (kp E) o).run P W = .ok (.value v) W'
theorem HQ {o : Oper} {dd : Nat} {v : Value} (hw : tz n ops E o) (a : o.dst = some dd) (b : dd < n) (c : mx P E o W v W) (h : LW P n ops Q rest (oM E dd v) W) : LW P n ops Q (o :: rest) E W := NN hw a b c h
theorem ko {x : Operand} {v : Value} (a : kp E x = v) : mx P E ⟨d, .move x, ty, pos, af, g⟩ W v W := by rw [← a]; rfl
theorem ol {x : Operand} {v : Value} (a : kp E x = v) : mx P E ⟨d, .assign x, ty, pos, af, g⟩ W v W := by rw [← a]; rfl
theorem lg {c x y : Operand} {v : Value} (a : kp E c = .bool true) (b : kp E x = v) : mx P E ⟨d, .pick c x y, ty, pos, af, g⟩ W v W := by
 show (do pure (.value (if ← asBool (kp E c) then kp E x else kp E y)) : Sem Next).run P W = _
 rw [a, ← b]; simp [asBool]
theorem li {c x y : Operand} {v : Value} (a : kp E c = .bool false) (b : kp E y = v) : mx P E ⟨d, .pick c x y, ty, pos, af, g⟩ W v W := by
 show (do pure (.value (if ← asBool (kp E c) then kp E x else kp E y)) : Sem Next).run P W = _
 rw [a, ← b]; simp [asBool]
theorem Al {x : Operand} {i : Nat} {vs : Array Value} {v : Value} (b : kp E x = .tuple vs) (a : vs[i]? = some v) : mx P E ⟨d, .extract x i, ty, pos, af, g⟩ W v W := by
 show (do pure (.value (← Instr.extract (kp E x) i)) : Sem Next).run P W = _
 rw [b]; simp [Instr.extract, a]
theorem nT {u : TypeId} {x : Operand} {b : Bool} (a : kp E x = .bool b) : mx P E ⟨d, .unOp .not u x, ty, pos, af, g⟩ W (.bool !b) W := by
 show (do pure (.value (← Op.unary .not (kp E x))) : Sem Next).run P W = _
 rw [a]; simp [Op.unary]
theorem Mc {fn : Fn} {first caps : Array Operand} {v : Value} (a : .func fn (first.map (kp E)) (caps.map (kp E)) = v) : mx P E ⟨d, .makeFunc fn first caps, ty, pos, af, g⟩ W v W := by
 show (do pure (.value (← Instr.makeFunc fn (first.map (kp E)) (caps.map (kp E)))) : Sem Next).run P W = _
 rw [← a]; simp [Instr.makeFunc]
def I1 (k : IntKind) (op : BinOp) (a b : Int) : Option Value :=
 match op with
 | .eql => some (.bool (a == b))
 | .neq => some (.bool (a != b))
 | .lss => some (.bool (decide (a < b)))
 | .leq => some (.bool (decide (a ≤ b)))
 | .gtr => some (.bool (decide (a > b)))
 | .geq => some (.bool (decide (a ≥ b)))
 | .add => some (.int k (k.wrap (a + b)))
 | .sub => some (.int k (k.wrap (a - b)))
 | .mul => some (.int k (k.wrap (a * b)))
 | _ => none
theorem lW {op : BinOp} {c l : TypeId} {x y : Operand} {k : IntKind} {a b : Int} {v : Value} (i : kp E x = .int k a) (j : kp E y = .int k b) (h : I1 k op a b = some v) :
  mx P E ⟨d, .binOp op c x y l, ty, pos, af, g⟩ W v W := by
 show (do let r ← (do eqGuard op c x y (kp E x) (kp E y); binOp op c (kp E x) (kp E y)); pure (.value r) : Sem Next).run P W = _
 rw [i, j]
 cases op <;> simp [I1] at h <;> subst h <;> simp [eqGuard, binOp, Op.intCmp, Op.intArith]
def PZ (op : BinOp) (a b : ByteArray) : Option Value :=
 match op with
 | .eql => some (.bool (a.toList == b.toList))
 | .neq => some (.bool !(a.toList == b.toList))
 | .lss => some (.bool (Op.bytesLess a.toList b.toList))
 | .leq => some (.bool (Op.bytesLess a.toList b.toList || a.toList == b.toList))
 | .gtr => some (.bool !(Op.bytesLess a.toList b.toList || a.toList == b.toList))
 | .geq => some (.bool !(Op.bytesLess a.toList b.toList))
 | _ => none
def Bl (a b : ByteArray) : Option ByteArray := if ((a.size + b.size : Nat) : Int) > IntKind.i64.max then none else some (a ++ b)
theorem Hs {op : BinOp} {c k : TypeId} {x y : Operand} {a b : ByteArray} {v : Value} (i : kp E x = .string a) (j : kp E y = .string b) (h : PZ op a b = some v) :
  mx P E ⟨d, .binOp op c x y k, ty, pos, af, g⟩ W v W := by
 show (do let r ← (do eqGuard op c x y (kp E x) (kp E y); binOp op c (kp E x) (kp E y)); pure (.value r) : Sem Next).run P W = _
 rw [i, j]
 cases op <;> simp [PZ] at h <;> subst h <;> simp [eqGuard, binOp, Op.stringOp]
theorem wQ {c l : TypeId} {x y : Operand} {a b : Array Value} {r : Bool} (j : kp E x = .agg a) (k : kp E y = .agg b) (h : ∀ W, (eqGuard .eql c x y (.agg a) (.agg b)).run P W = .ok () W) (i : ∀ W, (binOp .eql c (.agg a) (.agg b)).run P W = .ok (.bool r) W) : mx P E ⟨d, .binOp .eql c x y l, ty, pos, af, g⟩ W (.bool r) W := by
 show (do let r ← (do eqGuard .eql c x y (kp E x) (kp E y); binOp .eql c (kp E x) (kp E y)); pure (.value r) : Sem Next).run P W = _
 rw [j, k]; simp [h W, i W]
theorem Jb {c l : TypeId} {x y : Operand} {a b : Array Value} {r : Bool} (j : kp E x = .agg a) (k : kp E y = .agg b) (h : ∀ W, (eqGuard .neq c x y (.agg a) (.agg b)).run P W = .ok () W) (i : ∀ W, (binOp .neq c (.agg a) (.agg b)).run P W = .ok (.bool r) W) : mx P E ⟨d, .binOp .neq c x y l, ty, pos, af, g⟩ W (.bool r) W := by
 show (do let r ← (do eqGuard .neq c x y (kp E x) (kp E y); binOp .neq c (kp E x) (kp E y)); pure (.value r) : Sem Next).run P W = _
 rw [j, k]; simp [h W, i W]
theorem BV {t e : TypeId} (dd : Nat) (b : P.underlying t = some (.pointer e)) (a : Option Addr) (W : World) : (Op.equalIn (dd + 1) t (.pointer a) (.pointer none)).run P W = .ok a.isNone W := by
 cases a <;> simp [Op.equalIn, aX b]
theorem xI {b k e : TypeId} {x y : Operand} {a : Option Addr} (h : P.underlying b = some (.pointer e)) (i : kp E x = .pointer a) (j : kp E y = .pointer none) :
  mx P E ⟨d, .binOp .eql b x y k, ty, pos, af, g⟩ W (.bool a.isNone) W := by
 show (do let r ← (do eqGuard .eql b x y (kp E x) (kp E y); binOp .eql b (kp E x) (kp E y)); pure (.value r) : Sem Next).run P W = _
 rw [i, j]
 have c := BV 9999 h a W
 simp [eqGuard, binOp, Op.equal, show Op.maxDepth = 9999 + 1 from rfl, c]
theorem DT {b k e : TypeId} {x y : Operand} {a : Option Addr} (h : P.underlying b = some (.pointer e)) (i : kp E x = .pointer a) (j : kp E y = .pointer none) :
  mx P E ⟨d, .binOp .neq b x y k, ty, pos, af, g⟩ W (.bool !a.isNone) W := by
 show (do let r ← (do eqGuard .neq b x y (kp E x) (kp E y); binOp .neq b (kp E x) (kp E y)); pure (.value r) : Sem Next).run P W = _
 rw [i, j]
 have c := BV 9999 h a W
 simp [eqGuard, binOp, Op.equal, show Op.maxDepth = 9999 + 1 from rfl, c]
theorem pY {x : Operand} {t : TypeId} {s : ByteArray} (a : P.underlying t = some .string) (b : kp E x = .string s) : mx P E ⟨d, .call ⟨.builtin .len, #[x], #[t]⟩, ty, pos, af, g⟩ W (.int .i64 s.size) W := by
 show (do let d ← resolve (kp E) ⟨.builtin .len, #[x], #[t]⟩ ty; invoke d.target d.args : Sem Next).run P W = _
 simp [resolve, invoke, builtin, Builtin.len_, aX a, b, goInt]
theorem zO {x : Operand} {t e : TypeId} {A : Option Addr} {l c : Nat} (a : P.underlying t = some (.slice e)) (b : kp E x = .slice A l c) : mx P E ⟨d, .call ⟨.builtin .len, #[x], #[t]⟩, ty, pos, af, g⟩ W (.int .i64 l) W := by
 show (do let d ← resolve (kp E) ⟨.builtin .len, #[x], #[t]⟩ ty; invoke d.target d.args : Sem Next).run P W = _
 simp [resolve, invoke, builtin, Builtin.len_, aX a, b, goInt]
theorem lT {α : Type} {R : pW α} {k : Nat} {m : kL} {x : Operand} {t e : TypeId} {v : Value} {l : List α} (b : P.underlying t = some (.slice e)) (h : kp E x = v) (a : Sl R k m v l) : mx P E ⟨d, .call ⟨.builtin .len, #[x], #[t]⟩, ty, pos, af, g⟩ W (.int .i64 l.length) W := by
 obtain ⟨A, c, rfl, _⟩ := a
 exact zO b h
theorem MU {t : TypeId} {x a : Operand} {m : IntKind} {s : ByteArray} {i : Int} {c : UInt8} (k : P.underlying t = some .string) (l : kp E x = .string s) (h : kp E a = .int m i) (b : 0 ≤ i) (j : s[i.toNat]? = some c) :
  mx P E ⟨d, .index t x a, ty, pos, af, g⟩ W (.int .u8 c.toNat) W := by
 show (do pure (.value (← Instr.index t (kp E x) (kp E a))) : Sem Next).run P W = _
 rw [l, h]
 simp [Instr.index, asIntOf, aX k, b, j]
def mH (P : Program) (t : TypeId) (f off : Nat) : Prop := ∀ b o w, (Instr.fieldAt t (.pointer (some ⟨b, o, none⟩)) f).run P w = .ok (.pointer (some ⟨b, o + off, none⟩)) w
theorem ky {t : TypeId} {x : Operand} {f off b o : Nat} (a : mH P t f off) (c : kp E x = .pointer (some ⟨b, o, none⟩)) : mx P E ⟨d, .fieldAddr t x f, ty, pos, af, g⟩ W (.pointer (some ⟨b, o + off, none⟩)) W := by
 show (do pure (.value (← Instr.fieldAt t (kp E x) f)) : Sem Next).run P W = _
 rw [c]; simp [a b o W]
theorem xn {t : TypeId} {x : Operand} {f off : Nat} {v : Value} {ys : List Value} (zs : List Value) (i : mH P t f off) (m : kp E x = v) (l : At μ v ys) (n : (ys.drop off).take zs.length = zs) :
  ∃ c, At μ c zs ∧ ∀ W, mx P E ⟨d, .fieldAddr t x f, ty, pos, af, g⟩ W c W := by
 obtain ⟨b, o, cs, T, fr, rfl, h1, h⟩ := l
 refine ⟨_, ⟨b, o + off, cs, T, fr, rfl, h1, fun j y a => ?_⟩, fun W => ky i m⟩
 have k : j < zs.length := (bF.1 a).1
 have := h (off + j) y (by
  rw [← n, dO k, dK] at a
  exact a)
 rw [eu]
 exact this
theorem nx {x : Operand} {a : Addr} (b : kp E x = .pointer (some a)) : mx P E ⟨d, .nilCheck x, ty, pos, af, g⟩ W (.pointer (some a)) W := by
 unfold mx execOp
 simp [b]
theorem HZ {α : Type} {R : pW α} {k : Nat} {t e : TypeId} {x h : Operand} {M : IntKind} {v : Value} {i : Int} {l : List α} {x0 : α} (I : P.underlying t = some (.slice e)) (he : ∀ w, (sizeOf e).run P w = .ok k w) (J : kp E x = v) (D : kp E h = .int M i) (G : Sl R k μ v l) (n : 0 ≤ i) (m : l[i.toNat]? = some x0) :
  ∃ p ys, ys.length = k ∧ R μ ys x0 ∧ At μ p ys ∧ ∀ W, mx P E ⟨d, .indexAddr t x h, ty, pos, af, g⟩ W p W := by
 obtain ⟨A, c, rfl, O, Q, o⟩ := G
 have F : i.toNat < l.length := (bF.1 m).1
 obtain ⟨b, off, cs, T, fr, rfl, q, r⟩ := o (by omega)
 obtain ⟨ys, s, u, a⟩ := r i.toNat x0 m
 refine ⟨.pointer (some ⟨b, off + i.toNat * k, none⟩), ys, s, u, ⟨b, off + i.toNat * k, cs, T, fr, rfl, q, fun j y L => a j y L⟩, fun W => ?_⟩
 show (do pure (.value (← Instr.indexAt t (kp E x) (kp E h))) : Sem Next).run P W = _
 rw [J, D]
 have z : 0 ≤ i ∧ i < (l.length : Int) := ⟨n, by omega⟩
 simp [Instr.indexAt, asIntOf, aX I, he W, z, dL]
theorem ni {α : Type} {enc : α → List Value} {k : Nat} {t e : TypeId} {x a : Operand} {s : IntKind} {v : Value} {i : Int} {l : List α} {x0 : α} (q : P.underlying t = some (.slice e)) (he : ∀ w, (sizeOf e).run P w = .ok k w) (r : kp E x = v) (m : kp E a = .int s i) (o : Sl (Pl enc) k μ v l) (b : 0 ≤ i) (n : l[i.toNat]? = some x0) :
  ∃ p, At μ p (enc x0) ∧ ∀ W, mx P E ⟨d, .indexAddr t x a, ty, pos, af, g⟩ W p W := by
 obtain ⟨p, ys, h1, c, h, j⟩ := HZ (d := d) (ty := ty) (pos := pos) (af := af) (g := g) q he r m o b n
 cases c
 exact ⟨p, h, j⟩
theorem IL (P : Program) {W : World} {b off : Nat} {cs : Array Value} {T : TypeId} {fr : Nat × Nat} (a : W.heap[b]? = some (.cells cs T fr)) (ys : List Value) (d : ∀ j y, ys[j]? = some y → cs[off + j]? = some y) :
  (loadCells ⟨b, off, none⟩ ys.length).run P W = .ok ys.toArray W :=
 run_loadCells_list W ⟨b, off, none⟩ ys (fun j v c => by rw [dL, gz W b (off + j) cs T fr a]; exact d j v c)
theorem CD {W : World} {t : TypeId} {b off : Nat} {cs : Array Value} {T : TypeId} {fr : Nat × Nat} (a : ∀ w, (isAgg t).run P w = .ok true w) (ys : List Value) (c : ∀ w, (sizeOf t).run P w = .ok ys.length w) (d : W.heap[b]? = some (.cells cs T fr)) (g : ∀ j y, ys[j]? = some y → cs[off + j]? = some y) : (Instr.loadAt t (.pointer (some ⟨b, off, none⟩))).run P W = .ok (.agg ys.toArray) W := by
 simp [Instr.loadAt, Instr.sureAddr, loadVar, a W, c W, IL P d ys g]
theorem Cx {W : World} {t : TypeId} {b off : Nat} {cs : Array Value} {T : TypeId} {fr : Nat × Nat} (a : ∀ w, (isAgg t).run P w = .ok false w) {y : Value} (c : W.heap[b]? = some (.cells cs T fr)) (g : cs[off]? = some y) : (Instr.loadAt t (.pointer (some ⟨b, off, none⟩))).run P W = .ok y W := by
 have d : W.cell? ⟨b, off, none⟩ = some y := by rw [gz W b off cs T fr c]; exact g
 simp [Instr.loadAt, Instr.sureAddr, loadVar, a W, load, Sem.run, d]
theorem kl {t : TypeId} {x : Operand} {a v : Value} (c : kp E x = a) (b : (Instr.loadAt t a).run P W = .ok v W) : mx P E ⟨d, .load t x, ty, pos, af, g⟩ W v W := by
 show (do pure (.value (← Instr.loadAt t (kp E x))) : Sem Next).run P W = _
 rw [c]; simp [b]
def og (μ : kL) (A : List (Nat × Obj)) (W : World) : Prop := (∀ b o, μ b = some o → W.heap[b]? = some o) ∧ ∀ b o, (b, o) ∈ A → W.heap[b]? = some o
theorem ST.has (h : ST dd F w W μ L) : og μ L W := ⟨h.mem, fun b o a => (h.box b o a).1⟩
theorem og.sub {μ' : kL} {A A' : List (Nat × Obj)} (h : og μ A W) (d : kH μ' μ) (c : ∀ p, p ∈ A' → p ∈ A) : og μ' A' W := ⟨fun b o a => h.1 b o (d b o a), fun b o a => h.2 b o (c _ a)⟩
theorem kO {A : List (Nat × Obj)} (hH : og μ A W) {t : TypeId} {p : Value} {ys : List Value} (hp : At μ p ys) (c : ∀ w, (isAgg t).run P w = .ok true w) (d : ∀ w, (sizeOf t).run P w = .ok ys.length w) :
  (Instr.loadAt t p).run P W = .ok (.agg ys.toArray) W := by
 obtain ⟨b, off, cs, T, fr, rfl, h1, a⟩ := hp
 exact CD c ys d (hH.1 _ _ h1) a
theorem ns {A : List (Nat × Obj)} (hH : og μ A W) {t : TypeId} {p y : Value} (hp : At μ p [y]) (c : ∀ w, (isAgg t).run P w = .ok false w) :
  (Instr.loadAt t p).run P W = .ok y W := by
 obtain ⟨b, off, cs, T, fr, rfl, h1, a⟩ := hp
 exact Cx c (hH.1 _ _ h1) (a 0 y rfl)
theorem kx {A : List (Nat × Obj)} (hH : og μ A W) {t : TypeId} {b off : Nat} {cs : Array Value} {T : TypeId} {fr : Nat × Nat} (g : (b, Obj.cells cs T fr) ∈ A) (ys : List Value) (i : (cs.toList.drop off).take ys.length = ys) (d : ∀ w, (isAgg t).run P w = .ok true w) (h : ∀ w, (sizeOf t).run P w = .ok ys.length w) : (Instr.loadAt t (.pointer (some ⟨b, off, none⟩))).run P W = .ok (.agg ys.toArray) W :=
 CD d ys h (hH.2 _ _ g) (fun j y a => by
  have c : j < ys.length := (bF.1 a).1
  rw [← i, dO c, dK] at a
  simpa using a)
theorem kK {A : List (Nat × Obj)} (hH : og μ A W) {t : TypeId} {b off : Nat} {cs : Array Value} {T : TypeId} {fr : Nat × Nat} (c : (b, Obj.cells cs T fr) ∈ A) {y : Value} (d : cs[off]? = some y) (a : ∀ w, (isAgg t).run P w = .ok false w) : (Instr.loadAt t (.pointer (some ⟨b, off, none⟩))).run P W = .ok y W :=
 Cx a (hH.2 _ _ c) d
theorem mK {t : TypeId} {a : Array (Nat × Operand)} {b : Array (Nat × Value)} {v : Value} (c : a.map (fun (i, x) => (i, kp E x)) = b) (h : ∀ W, (Instr.build t b).run P W = .ok v W) : mx P E ⟨d, .build t a, ty, pos, af, g⟩ W v W := by
 show (do pure (.value (← Instr.build t (a.map fun (i, x) => (i, kp E x)))) : Sem Next).run P W = _
 rw [c]; simp [h W]
theorem me {t : TypeId} {z cs : Array Value} {a : Array Field} {b : Array (Nat × Value)} {pl : Array (Nat × Nat)} (g : ∀ w, (zeroValue t).run P w = .ok (.agg z) w) (d : P.underlying t = some (.struct a)) (hp : ∀ w, (a.mapM fun f => do pure (f.offset, ← sizeOf f.type) : Sem (Array (Nat × Nat))).run P w = .ok pl w) (c : Instr.fill (pl[·]?) z b.toList = some cs) (W : World) : (Instr.build t b).run P W = .ok (.agg cs) W := by
 simp only [Instr.build, cI, g W, bQ, aX d, Value.cells]
 rw [hp W]
 simp only [bQ, c, dt]
end
theorem EY {α : Type} : ∀ (a : Ask α) (w : World), w.drawn ≤ (w.ask a).2.drawn
 | .done a, w => by simp [World.ask]
 | .ask b range k, w => by
  unfold World.ask
  dsimp only
  split
  ·exact EY (k 0) w
  ·refine dJ (jj w.drawn) ?_
   exact EY _ { w with drawn := w.drawn + 1 }
theorem ND (w : World) (c : Sys) : w.drawn ≤ (w.sys c).2.drawn := by
 have h := EY (Kernel.perform c w.os) w
 unfold World.sys
 generalize w.ask (Kernel.perform c w.os) = r at *
 obtain ⟨⟨a, b⟩, d⟩ := r
 cases a <;> simp at h ⊢ <;> exact h
theorem G1 {p : Program} {w c : World} {a : Addr} {u : TypeId} {k : Addr} {v : Value} {b : Bool} {l : List Addr} (h : w.viewStore p a u k v b = .ok (c, l)) : c.drawn = w.drawn := by
 unfold World.viewStore at h
 simp only [bind, Except.bind, pure, Except.pure] at h
 split at h
 ·cases h
 ·split at h
  ·cases h
  ·split at h
   ·split at h
    ·cases h
    ·split at h
     ·cases h
     ·cases h; rfl
   ·cases h
theorem H4 {p : Program} {w c : World} {a : Addr} {v : Value} {b : Bool} {l : List Addr} (h : w.farStore p a v b = .ok (c, l)) : c.drawn = w.drawn := by
 unfold World.farStore at h
 split at h
 ·split at h
  ·rename_i h1; cases h; exact G1 h1
  ·cases h
 ·cases h
theorem oO {α : Type} {p : Program} : ∀ (s : Sem α) (w d : World) (a : α), s.run p w = .ok a d → w.drawn ≤ d.drawn
 | .pure a, w, d, b, h => by simp only [Sem.run] at h; cases h; exact aS _
 | .load m a k, w, d, b, h => by
  simp only [Sem.run] at h
  split at h
  ·exact oO _ _ _ _ h
  ·split at h
   ·exact oO _ _ _ _ h
   ·cases h
 | .store m a v k, w, d, b, h => by
  have key : ∀ (r : Result α) i, r = .ok b d → (r = (match w.cell? a with
    | some _ => if w.frozen? a then .halt i w else k.run p (w.setCell a v)
    | none => match w.farStore p a v (m == .atomic) with
     | .ok (w, _) => k.run p w
     | .error h => .halt h w)) → w.drawn ≤ d.drawn := by
   intro r i j h
   rw [j] at h
   split at h
   ·split at h
    ·cases h
    ·have := oO k _ _ _ h.symm
     simpa [World.setCell] using this
   ·split at h
    ·rename_i h1
     have g := oO k _ _ _ h.symm
     rw [H4 h1] at g
     exact g
    ·cases h
  cases v with
  | agg cs => simp only [Sem.run] at h; cases h
  | tuple cs => simp only [Sem.run] at h; cases h
  | _ => exact key _ _ h (by simp only [Sem.run]; rfl)
 | .new o k, w, d, b, h => by simp only [Sem.run] at h; have := oO (k _) _ _ _ h; exact this
 | .shape r k, w, d, b, h => by simp only [Sem.run] at h; exact oO _ _ _ _ h
 | .freeze a n k, w, d, b, h => by
  simp only [Sem.run] at h
  have := oO k _ _ _ h
  unfold World.freeze at this
  split at this <;> exact this
 | .frozen a k, w, d, b, h => by simp only [Sem.run] at h; exact oO _ _ _ _ h
 | .getObj r k, w, d, b, h => by
  simp only [Sem.run] at h
  split at h <;> try (cases h; done)
  exact oO _ _ _ _ h
 | .setObj r o k, w, d, b, h => by
  simp only [Sem.run] at h
  split at h <;> try (cases h; done)
  have := oO k _ _ _ h
  exact this
 | .choose q k, w, d, b, h => by
  simp only [Sem.run] at h
  split at h
  ·exact oO _ _ _ _ h
  ·exact dJ (jj _) (oO _ _ _ _ h)
 | .sys c k, w, d, b, h => by
  simp only [Sem.run] at h
  exact dJ (ND w c) (oO _ _ _ _ h)
 | .program k, w, d, b, h => by simp only [Sem.run] at h; exact oO _ _ _ _ h
 | .mark m k, w, d, b, h => by simp only [Sem.run] at h; exact oO k _ _ _ h
 | .halt x, w, d, b, h => by simp only [Sem.run] at h; cases h
end Go.Proofs.YtklbhegeiijbjaaGreat
namespace Go.Proofs.YtklbhegeiijbjaaGreat
open Go.RowKit
variable {dd : Bool}
section
variable {P : Program} {n : Nat} {Q : qX} {E : Nat → Value} {W : World} {ops : Array Oper} {rest : List Oper}
 {d : Option Nat} {ty : TypeId} {pos : String} {af : Array Edge} {g : Option (Nat × Bool)}
 {F : Nat → Prop} {w : World} {μ : kL} {L : List (Nat × Obj)}
def nu (P : Program) (E : Nat → Value) (o : Oper) (W : World) (K : Value → World → Prop) : Prop :=
 (∃ v W', (execOp (kp E) o).run P W = .ok (.value v) W' ∧ K v W') ∨ (∃ W', (execOp (kp E) o).run P W = .ok .skip W' ∧ K undef W') ∨
 (∃ f args, (execOp (kp E) o).run P W = .ok (.enter f args) W ∧ Calls P f args W fun e a => ∃ v, e = .returned v ∧ K v a)
theorem nu.mono {o : Oper} {K K' : Value → World → Prop} (h : nu P E o W K) (hk : ∀ v W', K v W' → K' v W') : nu P E o W K' := by
 rcases h with ⟨v, W', h1, a⟩ | ⟨W', h1, a⟩ | ⟨f, args, h1, a⟩
 ·exact .inl ⟨v, W', h1, hk _ _ a⟩
 ·exact .inr (.inl ⟨W', h1, hk _ _ a⟩)
 ·exact .inr (.inr ⟨f, args, h1, cZ a (fun _ _ ⟨v, b, c⟩ => ⟨v, b, hk _ _ c⟩)⟩)
theorem Ro {o : Oper} {dd : Nat} (hw : tz n ops E o) (c : o.dst = some dd) (d : dd < n) (h : nu P E o W fun v W' => LW P n ops Q rest (oM E dd v) W') : LW P n ops Q (o :: rest) E W := by
 rcases h with ⟨v, W', h1, b⟩ | ⟨W', h1, b⟩ | ⟨f, args, h1, b⟩
 ·exact NN hw c d h1 b
 ·intro a ha
  unfold wpList
  rw [aV (hw.of ha)]
  refine .inl ?_
  unfold Oper.wp
  rw [ha.eval, h1, gF, c]
  exact b _ (ha.put d _)
 ·exact Pf hw c d h1 b
theorem SN {o : Oper} (hw : tz n ops E o) (c : o.dst = none) (h : nu P E o W fun _ W' => LW P n ops Q rest E W') : LW P n ops Q (o :: rest) E W := by
 rcases h with ⟨v, W', h1, b⟩ | ⟨W', h1, b⟩ | ⟨f, args, h1, b⟩
 ·intro a ha
  unfold wpList
  rw [aV (hw.of ha)]
  refine .inl ?_
  unfold Oper.wp
  rw [ha.eval, h1, fZ, c]
  exact b _ (ha.zH _)
 ·exact OM hw c h1 b
 ·intro a ha
  unfold wpList
  rw [aV (hw.of ha)]
  refine .inl ?_
  unfold Oper.wp
  rw [ha.eval, h1, gd]
  refine cZ b ?_
  rintro e g ⟨v, rfl, d⟩
  simp only [c]
  exact d _ (ha.zH _)
theorem kX {K : Value → World → Prop} {t : TypeId} {x : Operand} {v : Value} (a : ST dd F w W μ L) (c : kp E x = v) (h : ∀ W' b, ST dd F w W' μ ((b, .cells v.cells t (0, 0)) :: L) → K (.pointer (some ⟨b, 0, none⟩)) W') : nu P E ⟨d, .box t x, ty, pos, af, g⟩ W K :=
 .inl ⟨.pointer (some ⟨W.heap.size, 0, none⟩), W.alloc (.cells v.cells t (0, 0)), by
   show (do pure (.value (← Instr.box t (kp E x))) : Sem Next).run P W = _
   rw [c]
   simp [Instr.box, newVar, newRow, newObj, Sem.run], h _ _ (a.alloc _)⟩
theorem ll {K : Value → World → Prop} {t : TypeId} {z : Value} (a : ST dd F w W μ L) (c : ∀ w, (zeroValue t).run P w = .ok z w) (h : ∀ W' b, ST dd F w W' μ ((b, .cells z.cells t (0, 0)) :: L) → K (.pointer (some ⟨b, 0, none⟩)) W') : nu P E ⟨d, .alloc t, ty, pos, af, g⟩ W K :=
 .inl ⟨.pointer (some ⟨W.heap.size, 0, none⟩), W.alloc (.cells z.cells t (0, 0)), by
   show (do pure (.value (← Instr.alloc t true (.tuple #[]))) : Sem Next).run P W = _
   simp [Instr.alloc, c W, newVar, newRow, newObj, Sem.run], h _ _ (a.alloc _)⟩
theorem HB {t e : TypeId} {m k : Nat} {z : Value} {c : Array (Nat × Value)} {cs : Array Value} (g : P.underlying t = some (.slice e)) (d : ∀ w, (sizeOf e).run P w = .ok k w) (h : ∀ w, (zeroValue e).run P w = .ok z w) (hm : m * k ≤ 16777216) (a : Instr.fill (fun i => some (i * k, k)) ((Array.range (m * k)).map (fun i => (if m * k = 0 then (#[] : Array Value) else z.cells)[i % (if m * k = 0 then (#[] : Array Value) else z.cells).size]!)) c.toList = some cs) (W : World) :
  (Instr.buildSlice t m c).run P W = .ok (.slice (some ⟨W.heap.size, 0, none⟩) m m) (W.alloc (.cells cs e (0, 0))) := by
 simp only [Instr.buildSlice, cI, aX g, bQ, d W]
 rw [aU (by omega)]
 by_cases b : m * k = 0
 ·simp only [b, aZ] at a ⊢
  simp only [cI, dt, bQ, a]
  simp [newRow, newObj, Sem.run]
 ·simp only [b, aN] at a ⊢
  simp only [cI, h W, dt, bQ, a]
  simp [newRow, newObj, Sem.run]
theorem kV {K : Value → World → Prop} {t e : TypeId} {m : Nat} {c : Array (Nat × Operand)} {j : Array (Nat × Value)} {cs : Array Value} (a : ST dd F w W μ L) (k : c.map (fun (i, x) => (i, kp E x)) = j) (l : ∀ W, (Instr.buildSlice t m j).run P W = .ok (.slice (some ⟨W.heap.size, 0, none⟩) m m) (W.alloc (.cells cs e (0, 0)))) (h : ∀ W' b, ST dd F w W' μ ((b, .cells cs e (0, 0)) :: L) → K (.slice (some ⟨b, 0, none⟩) m m) W') : nu P E ⟨d, .buildSlice t m c, ty, pos, af, g⟩ W K :=
 .inl ⟨.slice (some ⟨W.heap.size, 0, none⟩) m m, W.alloc (.cells cs e (0, 0)), by
   show (do pure (.value (← Instr.buildSlice t m (c.map fun (i, x) => (i, kp E x)))) : Sem Next).run P W = _
   rw [k]
   simp [l W], h _ _ (a.alloc _)⟩
theorem ST.store {A B : List (Nat × Obj)} {b : Nat} {cs : Array Value} {t : TypeId} (c : ST dd F w W μ (A ++ (b, .cells cs t (0, 0)) :: B)) (a : Array Value) :
  ST dd F w (W.setRow b a) μ (A ++ (b, .cells a t (0, 0)) :: B) := by
 have d := (c.box b _ (by simp : (b, Obj.cells cs t (0, 0)) ∈ A ++ (b, .cells cs t (0, 0)) :: B)).1
 refine c.put ⟨rfl, rfl, rfl, aS _, by simp [World.setRow]⟩ (fun k hk => ?_) (setRow_heap W b cs a t (0, 0) d)
 simp only [World.setRow, dW]
 rw [aU (fun e => hk e.symm)]
theorem CH (P : Program) {W : World} {t : TypeId} {b off : Nat} {cs : Array Value} {T : TypeId} (v : Value) (a : ∀ w, (sizeOf t).run P w = .ok v.cells.size w) (h1 : ∀ u ∈ v.cells.toList, u.oneCell' = true) (c : W.heap[b]? = some (.cells cs T (0, 0))) (d : off + v.cells.size ≤ cs.size) : (Instr.storeAt t (.pointer (some ⟨b, off, none⟩)) v).run P W = .ok () (W.setRow b (cs.toList.take off ++ v.cells.toList ++ cs.toList.drop (off + v.cells.size)).toArray) := by
 have := jk (P := P) b off T v.cells.toList 0 cs W c (by simpa using d) h1
 simp [Instr.storeAt, Instr.sureAddr, storeVar, a W]
 simpa using this
theorem Qs {K : Value → World → Prop} (A : List (Nat × Obj)) {B : List (Nat × Obj)} {t : TypeId} {x y : Operand} (v : Value) {b off : Nat} {cs : Array Value} {T : TypeId} (a : Array Value) (c : ST dd F w W μ (A ++ (b, .cells cs T (0, 0)) :: B)) (m : kp E x = .pointer (some ⟨b, off, none⟩)) (n : kp E y = v) (i : ∀ w, (sizeOf t).run P w = .ok v.cells.size w) (h1 : ∀ u ∈ v.cells.toList, u.oneCell' = true) (l : off + v.cells.size ≤ cs.size) (k : (cs.toList.take off ++ v.cells.toList ++ cs.toList.drop (off + v.cells.size)).toArray = a) (h : ∀ W', ST dd F w W' μ (A ++ (b, .cells a T (0, 0)) :: B) → K undef W') : nu P E ⟨d, .store t x y, ty, pos, af, g⟩ W K :=
 .inr (.inl ⟨W.setRow b a, by
   show (do Instr.storeAt t (kp E x) (kp E y); pure .skip : Sem Next).run P W = _
   have j := (c.box b _ (by simp : (b, Obj.cells cs T (0, 0)) ∈ A ++ (b, .cells cs T (0, 0)) :: B)).1
   rw [m, n]
   simp only [cI, CH P v i h1 j l, k, bQ, dt], h _ (c.store a)⟩)
def kN (dd : Bool) (P : Program) (f : FuncId) (args : List Value) (w : World) (v : Value) : Prop := Calls P f args.toArray w fun e a => e = .returned v ∧ Ex dd w a
theorem NG {f : FuncId} {fv : Operand} {ax : Array Operand} {ats : Array TypeId} {caps args : Array Value} (a : kp E fv = .func (.func f) #[] caps) (he : ∀ args w, (callFunc f args).run P w = .ok (.enter f args) w) (ha : ax.map (kp E) ++ caps = args) :
  (execOp (kp E) ⟨d, .call ⟨.value fv, ax, ats⟩, ty, pos, af, g⟩).run P W = .ok (.enter f args) W := by
 show (do let d ← resolve (kp E) ⟨.value fv, ax, ats⟩ ty; invoke d.target d.args : Sem Next).run P W = _
 rw [← ha]
 simp only [resolve, a, Deferred.ofValue, cI, dt, bQ, invoke]
 simp [he]
theorem Fe {K : Value → World → Prop} {f : FuncId} {fv : Operand} {ax : Array Operand} {ats : Array TypeId} {caps args : Array Value} (a : kp E fv = .func (.func f) #[] caps) (he : ∀ args w, (callFunc f args).run P w = .ok (.enter f args) w) (ha : ax.map (kp E) ++ caps = args) (h : Calls P f args W fun e b => ∃ v, e = .returned v ∧ K v b) : nu P E ⟨d, .call ⟨.value fv, ax, ats⟩, ty, pos, af, g⟩ W K :=
 .inr (.inr ⟨f, args, NG a he ha, h⟩)
theorem Lp {K : Value → World → Prop} {f : FuncId} {fv : Operand} {ax : Array Operand} {ats : Array TypeId} {args : List Value} {v : Value} (a : ST dd F w W μ L) (i : kp E fv = .func (.func f) #[] #[]) (he : ∀ args w, (callFunc f args).run P w = .ok (.enter f args) w) (ha : (ax.map (kp E) ++ (#[] : Array Value)) = args.toArray) (c : kN dd P f args W v) (h : ∀ W', ST dd F w W' μ L → K v W') : nu P E ⟨d, .call ⟨.value fv, ax, ats⟩, ty, pos, af, g⟩ W K :=
 Fe i he ha (cZ c (fun _ _ ⟨h1, b⟩ => ⟨v, h1, h _ (a.Fg b)⟩))
def kC {α : Type} (e : TypeId) (enc : α → List Value) (k : Nat) (v : Value) (l : List α) (R : List (Nat × Obj)) : Prop :=
 (v = .slice none 0 0 ∧ l = [] ∧ R = []) ∨
 ∃ g cap a, v = .slice (some ⟨g, 0, none⟩) l.length cap ∧ R = [(g, .cells a e (0, 0))] ∧ l.length ≤ cap ∧ cap ≤ maxLen ∧ a.size = cap * k ∧ a.toList.take (l.length * k) = (l.map enc).flatten
theorem pj {α : Type} {enc : α → List Value} {k : Nat} (hk : ∀ x, (enc x).length = k) : ∀ l : List α, (l.map enc).flatten.length = l.length * k
 | [] => by simp
 | x :: l => by simp [pj hk l, hk x, cL, Nat.add_comm]
theorem xk {α : Type} {enc : α → List Value} {k : Nat} (hk : ∀ x, (enc x).length = k) : ∀ (l : List α) (i : Nat) (x : α), l[i]? = some x → ∀ j y, (enc x)[j]? = some y → (l.map enc).flatten[i * k + j]? = some y
 | [], i, x, h => by cases h
 | z :: l, 0, x, h => by
  simp at h; subst h
  intro j y a
  have b : j < (enc z).length := (bF.1 a).1
  simp [fI, b]
  rw [cF b] at a
  simpa using a
 | z :: l, i + 1, x, h => by
  intro j y a
  have := xk hk l i x (by simpa using h) j y a
  simp only [bH, bM]
  rw [eS (by rw [hk z]; have := Nat.le_mul_of_pos_left k (Nat.succ_pos i); simp [cL] at *; omega), hk z]
  rw [show (i + 1) * k + j - k = i * k + j by rw [cL]; omega]
  exact this
theorem Gn {α : Type} {enc : α → List Value} {k : Nat} (hk : ∀ x, (enc x).length = k) : ∀ (l : List α) (q : Nat) (y : Value), (l.map enc).flatten[q]? = some y → ∃ i x j, l[i]? = some x ∧ (enc x)[j]? = some y ∧ q = i * k + j
 | [], q, y, h => by simp at h
 | z :: l, q, y, h => by
  simp only [bH, bM] at h
  by_cases b : q < k
  ·rw [fS (by rw [hk]; exact b)] at h
   exact ⟨0, z, q, rfl, h, by simp⟩
  ·rw [eS (by rw [hk]; omega), hk] at h
   obtain ⟨i, x, j, h1, a, c⟩ := Gn hk l (q - k) y h
   exact ⟨i + 1, x, j, by simpa using h1, a, by rw [cL]; omega⟩
theorem kC.nil {α : Type} (e : TypeId) (enc : α → List Value) (k : Nat) : kC e enc k (.slice none 0 0) [] [] := .inl ⟨rfl, rfl, rfl⟩
theorem kC.sl {α : Type} {e : TypeId} {enc : α → List Value} {k : Nat} {v : Value} {l : List α} {R : List (Nat × Obj)} {m : kL} (h : kC e enc k v l R) (hk : ∀ x, (enc x).length = k) (hm : ∀ b o, (b, o) ∈ R → m b = some o) : Sl (Pl enc) k m v l := by
 rcases h with ⟨rfl, rfl, rfl⟩ | ⟨g, cap, a, rfl, rfl, h1, d, r, n⟩
 ·exact Sl.nil _ _ _
 ·refine ⟨_, cap, rfl, h1, d, fun _ => ⟨g, 0, a, e, (0, 0), rfl, hm _ _ (by simp), fun i x p => ⟨enc x, hk x, rfl, fun j y q => ?_⟩⟩⟩
  have := xk hk l i x p j y q
  rw [← n] at this
  have c : i * k + j < l.length * k := by
   have := (bF.1 this).1
   simp at this; omega
  rw [dO c] at this
  simpa using this
theorem kC.len {α : Type} {e : TypeId} {enc : α → List Value} {k : Nat} {v : Value} {l : List α} {R : List (Nat × Obj)} (h : kC e enc k v l R) : l.length ≤ 9223372036854775807 := by
 rcases h with ⟨rfl, rfl, rfl⟩ | ⟨g, cap, a, rfl, rfl, h1, b, c, d⟩
 ·simp
 ·unfold maxLen at b; omega
theorem kC.fr {α : Type} {e : TypeId} {enc : α → List Value} {k : Nat} {v : Value} {l : List α} {R X Y : List (Nat × Obj)} (h : kC e enc k v l R) (a : ST dd lM w W μ (X ++ (R ++ Y))) : Fr w.heap.size v := by
 rcases h with ⟨rfl, rfl, rfl⟩ | ⟨g, cap, d, rfl, rfl, h1, i, j, m⟩
 ·exact Fr.nil _
 ·intro b c
  simp [Value.ownBlock] at c
  subst c
  rcases (a.box g _ (by simp; exact .inr (.inl rfl))).2.2 with h | h
  ·exact h
  ·exact h.elim
theorem kC.lit {α : Type} {e : TypeId} {enc : α → List Value} {k b m : Nat} {l : List α} {cs : Array Value} (hm : l.length = m) (c : m ≤ maxLen) (d : cs.toList = (l.map enc).flatten) (a : cs.size = m * k) : kC e enc k (.slice (some ⟨b, 0, none⟩) m m) l [(b, .cells cs e (0, 0))] := by
 subst hm
 refine .inr ⟨b, _, cs, rfl, rfl, aS _, c, a, ?_⟩
 rw [← d, ← a]
 exact dx (by rw [dl]; exact aS _)
def mZ {α : Type} (a : Nat) (l m : List α) : Option (List α) := if (l.length + m.length) * a ≤ 140737488355328 ∧ l.length + m.length ≤ maxLen then some (l ++ m) else none
theorem JB {K : Value → World → Prop} {α : Type} {e t : TypeId} {enc : α → List Value} {k ab : Nat} {z v vs : Value} {l m r : List α} {R : List (Nat × Obj)} (X : List (Nat × Obj)) {Y : List (Nat × Obj)} {x y : Operand} {i : TypeInfo} (p : ST dd F w W μ (X ++ (R ++ Y))) (hk : ∀ x, (enc x).length = k) (b2 : 0 < k) (h1 : ∀ x, ∀ u ∈ enc x, u.oneCell' = true) (ht : P.underlying t = some (.slice e)) (hi : P.info? e = some i) (hz : i.zero = some z) (b6 : z.cells.size = k) (b3 : i.size = k) (b0 : i.bytes = ab) (hx : kp E x = v) (hy : kp E y = vs) (hR : kC e enc k v l R) (hs : Sl (Pl enc) k (hp W) vs m) (n : mZ ab l m = some r) (h : ∀ W' v' R', ST dd F w W' μ (X ++ (R' ++ Y)) → kC e enc k v' r R' → K v' W') : nu P E ⟨d, .call ⟨.builtin .append, #[x, y], #[t, t]⟩, ty, pos, af, g⟩ W K := by
 unfold mZ at n
 split at n
 case isFalse => cases n
 rename_i aj
 cases n
 have aa : ∀ (V : Value) (W' : World), (Builtin.append_ #[t, t] ty #[v, vs]).run P W = .ok V W' → (execOp (kp E) ⟨d, .call ⟨.builtin .append, #[x, y], #[t, t]⟩, ty, pos, af, g⟩).run P W = .ok (.value V) W' := by
  intro V W' hV
  show (do let d ← resolve (kp E) ⟨.builtin .append, #[x, y], #[t, t]⟩ ty; invoke d.target d.args : Sem Next).run P W = _
  simp [resolve, invoke, builtin, hx, hy, hV]
 obtain ⟨A, c, rfl, ba, bc, b1⟩ := hs
 have a8 : W.ownsRow 0 e k v l.length (l.map enc).flatten := by
  refine ⟨pj hk l, ?_⟩
  rcases hR with ⟨rfl, rfl, rfl⟩ | ⟨g, cap, I, rfl, rfl, h1, h2, h3, h4⟩
  ·exact .inl ⟨rfl, rfl⟩
  ·exact .inr ⟨g, cap, I, rfl, eH _, (p.box g _ (by simp)).1, h1, h2, h3, h4⟩
 have au : m.length = 0 ∨ ∃ ad, A = some ad ∧ ∀ j u, (m.map enc).flatten[j]? = some u → W.cell? (ad.add j) = some u := by
  rcases ed m.length with M | M
  ·exact .inl M
  ·obtain ⟨b, off, cs, T, fr, rfl, h6, h7⟩ := b1 M
   refine .inr ⟨⟨b, off, none⟩, rfl, fun j u hu => ?_⟩
   obtain ⟨i, x, q, h8, h9, rfl⟩ := Gn hk m j u hu
   obtain ⟨ys, _, aw, ay⟩ := h7 i x h8
   cases aw
   rw [dL, gz W b (off + (i * k + q)) cs T fr h6, ← eu]
   exact ay q u h9
 have ar : ∀ u ∈ (m.map enc).flatten, u.oneCell' = true := by
  intro u hu
  obtain ⟨ys, b5, b4⟩ := iq.1 hu
  obtain ⟨x, _, rfl⟩ := bG.1 b5
  exact h1 x u b4
 by_cases ao : m.length = 0
 ·have hm : m = [] := aP ao
  subst hm
  have hr : (Builtin.append_ #[t, t] ty #[v, .slice A 0 c]).run P W = .ok v W := by
   rcases a8.2 with ⟨rfl, M⟩ | ⟨g, cap, I, rfl, _, hg, ap, _, bd, _⟩
   ·cases A with
    | none => simp [Builtin.append_, aX ht, sizeOf, typeInfo, hi, Builtin.lenOf, Builtin.firstCells]
    | some ad => simp [Builtin.append_, aX ht, sizeOf, typeInfo, hi, Builtin.lenOf, Builtin.firstCells, loadCells, loadCellsFrom]
   ·cases A with
    | none => simp [Builtin.append_, aX ht, sizeOf, typeInfo, hi, Builtin.lenOf, Builtin.firstCells, ap, storeCells]
    | some ad => simp [Builtin.append_, aX ht, sizeOf, typeInfo, hi, Builtin.lenOf, Builtin.firstCells, loadCells, loadCellsFrom, ap, storeCells]
  exact .inl ⟨v, W, aa _ _ (by simpa using hr), by simpa using h W v R p (by simpa using hR)⟩
 rcases au with M | ⟨ad, rfl, a1⟩
 ·exact absurd M ao
 obtain ⟨v', W', hr, ah, s, b9, L⟩ := run_append_own_at (P := P) W 0 t ty e i z k ab ht hi hz b3 b0 b6 b2 v l.length (l.map enc).flatten a8 ad m.length c (m.map enc).flatten (pj hk m) a1 ar aj.2 aj.1 (eH _)
 have ae := oO _ _ _ _ hr
 refine .inl ⟨v', W', aa _ _ hr, ?_⟩
 have hlen : (l ++ m).length = l.length + m.length := by simp
 rcases ah.2 with ⟨_, M⟩ | ⟨Q, a6, a7, rfl, _, ag, b7, ak, al, av⟩
 ·omega
 have ai : kC e enc k (.slice (some ⟨Q, 0, none⟩) (l.length + m.length) a6) (l ++ m) [(Q, .cells a7 e (0, 0))] :=
  .inr ⟨Q, a6, a7, by rw [hlen], rfl, by omega, ak, al, by rw [hlen, av]; simp⟩
 refine h W' _ _ ?_ ai
 have aq := p.nd
 rcases hR with ⟨rfl, rfl, rfl⟩ | ⟨g, cap, I, rfl, rfl, q1, q2, q3, q4⟩
 ·-- nil: a new block
  have U : W.heap.size ≤ Q := by
   rcases L with h | h <;> simp [Value.ownBlock] at h
   omega
  have hex : Ex dd W W' := ⟨s.os, s.tape, s.output, tu.of ae, s.size, fun b n => s.block b n (by simp [Value.ownBlock])⟩
  have h1 := p.Fg hex
  refine ⟨h1.os, h1.tape, h1.output, h1.drawn, h1.size, h1.mR, h1.mem, fun b o n => ?_, ?_⟩
  ·simp only [aQ, aW] at n
   rcases n with n | n | n
   ·exact h1.box b o (by simp [n])
   ·cases n
    refine ⟨ag, ?_, .inl (dJ p.size U)⟩
    cases hm : μ Q with
    | none => rfl
    | some x => have := p.Dv hm; omega
   ·exact h1.box b o (by simp [n])
  ·simp only [bJ, cC, bH, eV] at aq ⊢
   refine (fW eL).2 (dF.2 ⟨fun hm => ?_, aq⟩)
   rw [← cC] at hm
   obtain ⟨⟨b, o⟩, n, J⟩ := bG.1 hm
   have aE : (b, o) ∈ X ++ ([] ++ Y) := by simpa using n
   have := p.Es aE
   simp at J
   omega
 ·by_cases an : Q = g
  ·subst an
   have M : ST dd F w W μ (X ++ (Q, Obj.cells I e (0, 0)) :: Y) := by simpa using p
   have hold : ∀ b, b < W.heap.size → b ≠ Q → W'.heap[b]? = W.heap[b]? := fun b n G => s.block b n (by simp [Value.ownBlock]; exact G)
   have D := M.nd
   simp only [cC, bH] at D
   have G : ∀ b o, (b, o) ∈ X ++ Y → b ≠ Q := fun b o n J => by
    subst J
    rcases aQ.1 n with n | n
    ·exact (bU.1 D).2.2 b (bG.2 ⟨_, n, rfl⟩) b (by simp) rfl
    ·exact (dF.1 (bU.1 D).2.1).1 (bG.2 ⟨_, n, rfl⟩)
   have O := M.box Q (Obj.cells I e (0, 0)) (by simp)
   refine ⟨s.os.trans p.os, s.tape.trans p.tape, s.output.trans p.output, tu.trans p.drawn (tu.of ae), dJ p.size s.size, fun b n hF => ?_, fun b o n => ?_, fun b o n => ?_, by simpa using D⟩
   ·rw [hold b (ec n p.size) (fun J => by subst J; rcases O.2.2 with h | h; omega; exact hF h)]
    exact p.mR b n hF
   ·rw [hold b (p.Dv n) (fun J => by subst J; rw [O.2.1] at n; cases n)]
    exact p.mem b o n
   ·simp only [aQ, aW] at n
    rcases n with n | n | n
    ·obtain ⟨Z, r2⟩ := p.box b o (by simp [n])
     exact ⟨by rw [hold b (oy Z) (G b o (by simp [n]))]; exact Z, r2⟩
    ·cases n; exact ⟨ag, O.2⟩
    ·obtain ⟨Z, r2⟩ := p.box b o (by simp [n])
     exact ⟨by rw [hold b (oy Z) (G b o (by simp [n]))]; exact Z, r2⟩
  ·have U : W.heap.size ≤ Q := by
    rcases L with h | h <;> simp [Value.ownBlock] at h
    ·exact absurd h an
    ·omega
   have M : ST dd F w W μ (X ++ (g, Obj.cells I e (0, 0)) :: Y) := by simpa using p
   have O := M.box g (Obj.cells I e (0, 0)) (by simp)
   have D := M.nd
   simp only [cC, bH] at D
   have G : ∀ b o, (b, o) ∈ X ++ Y → b ≠ g := fun b o n J => by
    subst J
    rcases aQ.1 n with n | n
    ·exact (bU.1 D).2.2 b (bG.2 ⟨_, n, rfl⟩) b (by simp) rfl
    ·exact (dF.1 (bU.1 D).2.1).1 (bG.2 ⟨_, n, rfl⟩)
   have hold : ∀ b, b < W.heap.size → b ≠ g → W'.heap[b]? = W.heap[b]? := fun b n G => s.block b n (by simp [Value.ownBlock]; exact G)
   refine ⟨s.os.trans p.os, s.tape.trans p.tape, s.output.trans p.output, tu.trans p.drawn (tu.of ae), dJ p.size s.size, fun b n hF => ?_, fun b o n => ?_, fun b o n => ?_, ?_⟩
   ·rw [hold b (ec n p.size) (fun J => by subst J; rcases O.2.2 with h | h; omega; exact hF h)]
    exact p.mR b n hF
   ·rw [hold b (p.Dv n) (fun J => by subst J; rw [O.2.1] at n; cases n)]
    exact p.mem b o n
   ·simp only [aQ, aW] at n
    rcases n with n | n | n
    ·obtain ⟨Z, r2⟩ := p.box b o (by simp [n])
     exact ⟨by rw [hold b (oy Z) (G b o (by simp [n]))]; exact Z, r2⟩
    ·cases n
     refine ⟨ag, ?_, .inl (dJ p.size U)⟩
     cases hm : μ Q with
     | none => rfl
     | some x => have := p.Dv hm; omega
    ·obtain ⟨Z, r2⟩ := p.box b o (by simp [n])
     exact ⟨by rw [hold b (oy Z) (G b o (by simp [n]))]; exact Z, r2⟩
   ·have az : (X.map (·.1) ++ Y.map (·.1)).Nodup := (dF.1 ((fW eL).1 D)).2
    simp only [cC, bH, eV]
    refine (fW eL).2 (dF.2 ⟨fun hm => ?_, az⟩)
    rw [← cC] at hm
    obtain ⟨⟨b, o⟩, n, J⟩ := bG.1 hm
    have := p.Es (b := b) (o := o) (by rcases aQ.1 n with h | h <;> simp [h])
    simp at J
    omega
end
end Go.Proofs.YtklbhegeiijbjaaGreat
namespace Go.Proofs.YtklbhegeiijbjaaGreat
open Go.RowKit
def Dq (l : List Value) : Nat → Value := fun t => l.getD t undef
def yC (P : Program) (fn : Func) (R : Ending → World → Prop) : qX
 | .normal, E, W | .ret, E, W => ∃ v, (∀ tmps : Array Value, (∀ t, tmps.getD t undef = E t) → (results fn tmps).run P W = .ok v W) ∧ R (.returned v) W
 | _, _, _ => False
theorem Aa {P : Program} {f : FuncId} {fn : Func} {c : Code} {args : List Value} {w : World} {R : Ending → World → Prop} {n : Nat} (o : P.funcs[f]? = some fn) (m : fn.body = some c) (p : fn.ntmps = n) (ha : args.length ≤ n) (h : CW P n c (yC P fn R) (Dq args) w) : Calls P f args.toArray w R := by
 refine calls_of_wp o m ?_
 have i : Ag n { tmps := args.toArray ++ Array.replicate (fn.ntmps - args.toArray.size) undef, defers := [] } (Dq args) := by
  refine ⟨by simp; omega, rfl, fun t => ?_⟩
  simp only [Dq, eF, List.getD_eq_getElem?_getD, Array.getElem?_append, Array.getElem?_replicate, dp, List.getElem?_toArray]
  by_cases k : t < args.length
  ·rw [aV k]
  ·rw [aU k, dP (by omega)]
   split <;> simp
 refine wp_mono (h _ i) (fun e a q d => ?_)
 cases e with
 | normal =>
  obtain ⟨E, b, v, j, g⟩ := d
  exact ⟨b.2.1, v, j _ b.2.2, g⟩
 | ret =>
  obtain ⟨E, b, v, j, g⟩ := d
  exact ⟨b.2.1, v, j _ b.2.2, g⟩
 | exit id => obtain ⟨E, b, h⟩ := d; exact h.elim
 | goto l => obtain ⟨E, b, h⟩ := d; exact h.elim
 | panic c => exact d.elim
 | outgrown => exact d.elim
section
variable {P : Program} {fn : Func} {R : Ending → World → Prop} {E : Nat → Value} {W : World}
theorem lB {r : Tmp} {v : Value} (a : fn.results = #[.tmp r]) (c : E r = v) (h : R (.returned v) W) : yC P fn R .ret E W :=
 ⟨v, fun tmps b => by rw [results_tmp a, b, c], h⟩
theorem rR {r s : Tmp} {v u : Value} (b : fn.results = #[.tmp r, .tmp s]) (c : E r = v) (hu : E s = u) (h : R (.returned (.tuple #[v, u])) W) : yC P fn R .ret E W :=
 ⟨.tuple #[v, u], fun tmps a => by rw [results_tmp2 b, a, a, c, hu], h⟩
theorem pu (a : fn.results = #[]) (h : R (.returned (.tuple #[])) W) : yC P fn R .ret E W :=
 ⟨.tuple #[], fun tmps _ => by rw [results_none a], h⟩
theorem qh {r : Tmp} {t : TypeId} {a : Addr} {v : Value} (b : fn.results = #[.cell r t]) (g : E r = .pointer (some a)) (d : (Instr.loadAt t (.pointer (some a))).run P W = .ok v W) (h : R (.returned v) W) : yC P fn R .ret E W :=
 ⟨v, fun tmps c => by
  have h1 : (loadVar t a).run P W = .ok v W := by simpa [Instr.loadAt, Instr.sureAddr] using d
  simp [results, b, c, g, asAddr, h1], h⟩
theorem qT (h : yC P fn R .ret E W) : yC P fn R .normal E W := h
end
section
variable {Q : qX} {E : Nat → Value} {W : World} {K : (Nat → Value) → World → Prop} {id j : Nat}
theorem kY (h : Q .normal E W) : xe id Q .normal E W := h
theorem mB (h : Q .ret E W) : xe id Q .ret E W := h
theorem pZ (h : Q .normal E W) : xe id Q (.exit id) E W := by simp [xe]; exact h
theorem Sf (a : (j = id) = False) (h : Q (.exit j) E W) : xe id Q (.exit j) E W := by simp only [xe, a, aN]; exact h
theorem ku (h : K E W) : qW K Q .normal E W := h
theorem kU (h : Q .ret E W) : qW K Q .ret E W := h
theorem mO (h : Q (.exit j) E W) : qW K Q (.exit j) E W := h
end
theorem NM {i N : Nat} (b : i < N) (a : N ≤ 9223372036854775807) : IntKind.i64.wrap ((i : Int) + 1) = ((i + 1 : Nat) : Int) := by
 rw [IntWalk.i64_in _ (by omega)]
 omega
theorem lu {P : Program} {n : Nat} {Q : qX} {E : Nat → Value} {W : World} {g r T U o p z t : Nat} {t1 t2 t3 t4 t5 t6 t7 : TypeId} {M O R : String} {f1 f2 f3 : Array Edge} {body : Code} (I : Nat → (Nat → Value) → World → Prop) (N : Nat) (G : N ≤ 9223372036854775807) (A : I 0 E W) (J : o < n) (L : t < n) (y : p < n) (F : ∀ i E W, I i E W → E p = .int .i64 (i : Nat) ∧ E z = .int .i64 (N : Nat)) (round : ∀ i E W, i < N → I i E W → CW P n (.block r body) (qW (fun E' W' => E' p = .int .i64 (i : Nat) ∧ I (i + 1) (oM (oM E' t (.int .i64 ((i + 1 : Nat) : Int))) p (.int .i64 ((i + 1 : Nat) : Int))) W') (xe g Q)) (oM E o (.bool true)) W) (done : ∀ E W, I N E W → Q .normal (oM E o (.bool false)) W) :
  CW P n (.block g (.loop (.seq (.region T #[⟨some o, .binOp .lss t1 (.tmp p) (.tmp z) t2, t3, M, f1, none⟩] false)
   (.seq (.cond (.tmp o) .skip (.exit g)) (.seq (.block r body)
    (.region U #[⟨some t, .binOp .add t4 (.tmp p) (.const (.int .i64 1)) t5, t6, O, f2, none⟩, ⟨some p, .move (.tmp t), t7, R, f3, none⟩] false)))))) Q E W := by
 refine lR (np (fun m E W => ∃ i, i ≤ N ∧ m = N - i ∧ I i E W) N ⟨0, eH _, by omega, A⟩ ?_)
 rintro m E W ⟨i, Y, rfl, d⟩
 obtain ⟨u, w⟩ := F i E W d
 refine kA (kB (HQ (.inl rfl) rfl J (lW u w rfl) (kQ ?_)))
 refine ku (kA ?_)
 have s : oM E o (.bool (decide ((i : Int) < (N : Int)))) o = .bool (decide ((i : Int) < (N : Int))) := by simp [oM]
 by_cases q : i < N
 ·have x : decide ((i : Int) < (N : Int)) = true := by simp; omega
  rw [x] at s ⊢
  refine vO s (lE (ku (kA ?_)))
  refine HF (round i E W q d) (fun e E' W' h => ?_)
  cases e with
  | normal =>
   obtain ⟨h1, D⟩ := h
   refine ku ?_
   have hw : IntKind.i64.wrap ((i : Int) + 1) = ((i + 1 : Nat) : Int) := NM q G
   refine kB (HQ (v := .int .i64 ((i + 1 : Nat) : Int)) (.inl rfl) rfl L (lW (k := .i64) (a := (i : Int)) (b := 1) h1 rfl (by simp only [I1, hw])) ?_)
   refine HQ (v := .int .i64 ((i + 1 : Nat) : Int)) (.inl rfl) rfl y (ko (by simp [kp, oM])) (kQ ?_)
   exact ku ⟨N - (i + 1), by omega, i + 1, by omega, rfl, D⟩
  | exit j => exact h
  | goto l => exact h
  | ret => exact h
  | panic c => exact h
  | outgrown => exact h
 ·have x : decide ((i : Int) < (N : Int)) = false := by simp; omega
  rw [x] at s ⊢
  obtain rfl : i = N := by omega
  refine qZ s (nf (mO (mO (pZ ?_))))
  exact done E W d
theorem NV {P : Program} {n : Nat} {x : Code} {Q : qX} {K : (Nat → Value) → World → Prop} {E : Nat → Value} {W : World} (J : (Nat → Value) → World → Prop) (h : CW P n x (qW J Q) E W) (k : ∀ E W, J E W → K E W) : CW P n x (qW K Q) E W :=
 HF h (fun e E W h => by cases e <;> first | exact k E W h | exact h)
theorem RH {α : Type} {c : Bool} {x y r : α} (a : c = true) (h : (if c = true then x else y) = r) : x = r := by rw [aV a] at h; exact h
theorem RK {α : Type} {c : Bool} {x y r : α} (a : c = false) (h : (if c = true then x else y) = r) : y = r := by rw [aU (by rw [a]; decide)] at h; exact h
theorem bind_some {α β : Type} {o : Option α} {f : α → Option β} {r : β} (h : o.bind f = some r) : ∃ y, o = some y ∧ f y = some r := by
 cases o with
 | none => cases h
 | some y => exact ⟨y, rfl, h⟩
theorem MR (b : Bool) : b = true ∨ b = false := by cases b <;> simp
theorem lc {α : Type} {l : List α} {i : Nat} (h : i < l.length) : ∃ x xs, l.drop i = x :: xs ∧ l[i]? = some x ∧ l.drop (i + 1) = xs := by
 cases a : l.drop i with
 | nil => have := aR List.length a; simp at this; omega
 | cons x xs => exact ⟨x, xs, rfl, by rw [← List.head?_drop, a]; rfl, by rw [← List.drop_drop, a]; rfl⟩
theorem Bj {P : Program} {W : World} (d : Nat) (xs ys : Array Value) : (Op.eqFields d xs ys []).run P W = .ok true W := by simp [Op.eqFields]
theorem pN {P : Program} {W : World} {d : Nat} {xs ys : Array Value} {f : Field} {c : List Field} {a b : Value} {r s : Bool} (i : f.name ≠ "_") (ha : (part f.type xs f.offset).run P W = .ok a W) (g : (part f.type ys f.offset).run P W = .ok b W) (he : (Op.equalIn d f.type a b).run P W = .ok r W) (h : (Op.eqFields d xs ys c).run P W = .ok s W) : (Op.eqFields d xs ys (f :: c)).run P W = .ok (r && s) W := by
 simp only [Op.eqFields, ne_eq, i, not_false_eq_true, aZ, cI, ha, g, he, bQ]
 cases r <;> simp [h]
theorem vS {P : Program} {W : World} {t : TypeId} {k : Nat} {cs : Array Value} {off : Nat} {v : Array Value} (a : ∀ w, (isAgg t).run P w = .ok true w) (b : ∀ w, (sizeOf t).run P w = .ok k w) (c : cs.extract off (off + k) = v) : (part t cs off).run P W = .ok (.agg v) W := by
 simp [part, a W, b W, c]
theorem pK {P : Program} {W : World} {t : TypeId} {cs : Array Value} {off : Nat} {v : Value} (a : ∀ w, (isAgg t).run P w = .ok false w) (b : cs[off]? = some v) : (part t cs off).run P W = .ok v W := by
 simp [part, a W, b]
def lK (a b : ByteArray) : Bool := a.toList == b.toList
theorem Nv {P : Program} {t : TypeId} (c : P.underlying t = some .string) (d : Nat) (a b : ByteArray) (W : World) : (Op.equalIn (d + 1) t (.string a) (.string b)).run P W = .ok (lK a b) W := run_equalIn_string W d t a b c
theorem TT {P : Program} {t : TypeId} {k : IntKind} (c : P.underlying t = some (.int k)) (d : Nat) (a b : Int) (W : World) : (Op.equalIn (d + 1) t (.int k a) (.int k b)).run P W = .ok (a == b) W := run_equalIn_int W d t k k a b c
theorem ow {P : Program} {op : BinOp} {t : TypeId} {x y : Operand} {a b : Array Value} (c : P.eqGuardType P.depth t = false) (W : World) : (eqGuard op t x y (.agg a) (.agg b)).run P W = .ok () W := by
 cases op <;> simp [eqGuard] <;> (intro h; rw [c] at h; cases h)
theorem sU {P : Program} {t : TypeId} {a b : Array Value} {r : Bool} (h : ∀ W, (Op.equalIn Op.maxDepth t (.agg a) (.agg b)).run P W = .ok r W) (W : World) : (binOp .eql t (.agg a) (.agg b)).run P W = .ok (.bool r) W := by
 simp [binOp, Op.equal, h W]
theorem Fb {P : Program} {t : TypeId} {a b : Array Value} {r : Bool} (h : ∀ W, (Op.equalIn Op.maxDepth t (.agg a) (.agg b)).run P W = .ok r W) (W : World) : (binOp .neq t (.agg a) (.agg b)).run P W = .ok (.bool !r) W := by
 simp [binOp, Op.equal, h W]
variable {dd : Bool}
def mc (k : IntKind) (x : Int) : List Value := [.int k x]
def Mx (x : Bool) : List Value := [.bool x]
def ob (x : ByteArray) : List Value := [.string x]
theorem E5 (k : IntKind) (x : Int) : ∀ u ∈ mc k x, u.oneCell' = true := by intro u hu; simp [mc] at hu; subst hu; rfl
theorem Tt (x : Bool) : ∀ u ∈ Mx x, u.oneCell' = true := by intro u hu; simp [Mx] at hu; subst hu; rfl
theorem HX (x : ByteArray) : ∀ u ∈ ob x, u.oneCell' = true := by intro u hu; simp [ob] at hu; subst hu; rfl
def zS : ByteArray := ⟨#[]⟩
def pV (a b : ByteArray) : Bool := Op.bytesLess a.toList b.toList
@[irreducible] def kT : Nat := 18446744073709551616
theorem tW : kT = 18446744073709551616 := by unfold kT; rfl
def lN {α : Type} (l : List α) (i : Int) : Option α := if 0 ≤ i then l[i.toNat]? else none
theorem kI {α : Type} {l : List α} {i : Int} {x : α} (h : lN l i = some x) : 0 ≤ i := by
 unfold lN at h; split at h
 ·assumption
 ·cases h
theorem kF {α : Type} {l : List α} {i : Int} {x : α} (h : lN l i = some x) : l[i.toNat]? = some x := by
 unfold lN at h; split at h
 ·exact h
 ·cases h
theorem Fa {α : Type} (l : List α) (i : Nat) : lN l (i : Int) = l[i]? := by simp [lN]
def AB (s : ByteArray) (i : Int) : Option UInt8 := if 0 ≤ i then s[i.toNat]? else none
theorem KJ {s : ByteArray} {i : Int} {x : UInt8} (h : AB s i = some x) : 0 ≤ i := by
 unfold AB at h; split at h
 ·assumption
 ·cases h
theorem O0 {s : ByteArray} {i : Int} {x : UInt8} (h : AB s i = some x) : s[i.toNat]? = some x := by
 unfold AB at h; split at h
 ·exact h
 ·cases h
section
variable {F : Nat → Prop} {w W : World} {μ : kL} {L L' : List (Nat × Obj)} {α : Type} {e : TypeId} {enc : α → List Value} {k : Nat} {v : Value} {l : List α} {R : List (Nat × Obj)}
theorem ST.at_ (h : ST dd F w W μ L) {b : Nat} {o : Obj} (a : (b, o) ∈ L) : hp W b = some o := (h.box b o a).1
theorem kC.Tl (h : kC e enc k v l R) (hk : ∀ x, (enc x).length = k) (a : ST dd F w W μ L) (b : ∀ p, p ∈ R → p ∈ L) : Sl (Pl enc) k (hp W) v l :=
 h.sl hk (fun _ _ c => a.at_ (b _ c))
theorem kC.form (h : kC e enc k v l R) : ∃ A c, v = .slice A l.length c := by
 rcases h with ⟨rfl, rfl, rfl⟩ | ⟨g, cap, a, rfl, rfl, h1, b, d, i⟩
 ·exact ⟨_, _, rfl⟩
 ·exact ⟨_, _, rfl⟩
theorem Sl.form {R : pW α} (h : Sl R k μ v l) : ∃ A c, v = .slice A l.length c := let ⟨A, c, h, _⟩ := h; ⟨A, c, h⟩
theorem kC.Lb (h : kC e enc k v l R) (c : ST dd lM w W μ L) (i : ∀ p, p ∈ R → p ∈ L) : Fr w.heap.size v := by
 rcases h with ⟨rfl, rfl, rfl⟩ | ⟨g, cap, a, rfl, rfl, h1, j, m, n⟩
 ·exact Fr.nil _
 ·intro b d
  simp [Value.ownBlock] at d
  subst d
  rcases (c.box g (.cells a e (0, 0)) (i _ (aW.2 rfl))).2.2 with h | h
  ·exact h
  ·exact h.elim
theorem Sl.lit {b m : Nat} {cs : Array Value} (hk : ∀ x, (enc x).length = k) (hm : l.length = m) (c : m ≤ maxLen) (a : cs.toList = (l.map enc).flatten) (d : μ b = some (.cells cs e (0, 0))) : Sl (Pl enc) k μ (.slice (some ⟨b, 0, none⟩) m m) l :=
 (kC.lit (e := e) (b := b) hm c a (by have := aR List.length a; rw [pj hk, dl, hm] at this; exact this)).sl hk (fun g o h => by simp at h; obtain ⟨rfl, rfl⟩ := h; exact d)
theorem Fr.box (h : ST dd lM w W μ L) {b m c : Nat} {o : Obj} (d : (b, o) ∈ L) : Fr w.heap.size (.slice (some ⟨b, 0, none⟩) m c) := by
 intro g a
 simp [Value.ownBlock] at a
 subst a
 rcases (h.box b o d).2.2 with h | h
 ·exact h
 ·exact h.elim
theorem ST.perm (h : ST dd F w W μ L) (hp : L.Perm L') : ST dd F w W μ L' :=
 ⟨h.os, h.tape, h.output, h.drawn, h.size, h.mR, h.mem, fun b o a => h.box b o (hp.mem_iff.2 a), (hp.map _).nodup_iff.1 h.nd⟩
theorem ST.sublist (h : ST dd F w W μ L) (a : L'.Sublist L) : ST dd F w W μ L' :=
 ⟨h.os, h.tape, h.output, h.drawn, h.size, h.mR, h.mem, fun b o c => h.box b o (a.subset c), h.nd.sublist (a.map _)⟩
end
section
variable {E : Nat → Value} {x1 x2 x3 x4 x5 x6 : Operand} {v1 v2 v3 v4 v5 v6 : Value}
theorem sW (h1 : kp E x1 = v1) : #[x1].map (kp E) ++ (#[] : Array Value) = [v1].toArray := by simp [h1]
theorem ta (h1 : kp E x1 = v1) (a : kp E x2 = v2) : #[x1, x2].map (kp E) ++ (#[] : Array Value) = [v1, v2].toArray := by simp [h1, a]
theorem SR (h1 : kp E x1 = v1) (a : kp E x2 = v2) (b : kp E x3 = v3) : #[x1, x2, x3].map (kp E) ++ (#[] : Array Value) = [v1, v2, v3].toArray := by simp [h1, a, b]
theorem SU (h1 : kp E x1 = v1) (a : kp E x2 = v2) (b : kp E x3 = v3) (c : kp E x4 = v4) : #[x1, x2, x3, x4].map (kp E) ++ (#[] : Array Value) = [v1, v2, v3, v4].toArray := by simp [h1, a, b, c]
end
theorem Ii : ∀ (v : List Value) (i off : Nat) (cells : Array Value), off + i + v.length ≤ cells.size →
  (v.zipIdx i).foldl (fun cs (c, j) => cs.setIfInBounds (off + j) c) cells = (cells.toList.take (off + i) ++ v ++ cells.toList.drop (off + i + v.length)).toArray
 | [], i, off, cells, h => by simp
 | c :: v, i, off, cells, h => by
  simp only [jG, jQ]
  simp only [aJ] at h
  rw [Ii v (i + 1) off _ (by simp; omega)]
  have d : off + i < cells.toList.length := by simp; omega
  congr 1
  rw [Array.toList_setIfInBounds]
  apply dQ
  intro j
  have g : (cells.toList.take (off + i)).length = off + i := by simp; omega
  by_cases h1 : j < off + i
  ·simp only [fI, aC, cP, iH, dl, aJ, dS, fc, dK]
   rw [show min (off + (i + 1)) cells.size = off + (i + 1) by omega, show min (off + i) cells.size = off + i by omega]
   rw [aV (by omega), aV (by omega), aV (by omega), aU (by omega), aV (by omega), aV (by omega), aV (by omega)]
  ·by_cases b : j = off + i
   ·subst b
    simp [fI, dS, fc, show off + i < off + (i + 1) by omega]
    rw [aV (by omega), aV (by omega), aU (by omega), show off + i - min (off + i) cells.size = 0 by omega]
    rfl
   ·simp only [fI, aC, cP, iH, dl, aJ, dS, fc, dK]
    rw [show min (off + (i + 1)) cells.size = off + (i + 1) by omega, show min (off + i) cells.size = off + i by omega]
    by_cases a : j < off + (i + 1) + v.length
    ·rw [aV a, aU (by omega), aV (by omega), aU (by omega)]
     rw [show j - (off + i) = (j - (off + (i + 1))) + 1 by omega]
     simp
    ·rw [aU a, aU (by omega), aU (by omega)]
     congr 1
     omega
theorem J7 {k : Nat} : ∀ (vs : List Value) (i : Nat) (pre rest : List Value), (∀ v ∈ vs, v.cells.size = k) → pre.length = i * k → rest.length = vs.length * k →
  Instr.fill (fun i => some (i * k, k)) (pre ++ rest).toArray ((vs.zipIdx i).map (fun p => (p.2, p.1))) = some (pre ++ vs.flatMap (fun v => v.cells.toList)).toArray
 | [], i, pre, rest, d, hp, b => by
  have : rest = [] := by cases rest <;> simp at b ⊢
  simp [Instr.fill, this]
 | v :: vs, i, pre, rest, d, hp, b => by
  have a := d v (by simp)
  have g : v.cells.zipIdx.foldl (fun cs (c, j) => cs.setIfInBounds (i * k + j) c) (pre ++ rest).toArray = (pre ++ v.cells.toList ++ rest.drop k).toArray := by
   have := Ii v.cells.toList 0 (i * k) (pre ++ rest).toArray (by simp [hp, b, a, cL])
   rw [← Array.toList_zipIdx, Array.foldl_toList] at this
   rw [this]
   congr 1
   simp [← hp, a]
  simp only [jG, bH, Instr.fill]
  rw [aU (by simp [a, hp, b, cL]), g]
  have := J7 vs (i + 1) (pre ++ v.cells.toList) (rest.drop k) (fun u hu => d u (by simp [hu])) (by simp [hp, a, cL]) (by simp [b, cL])
  rw [this]
  simp
theorem OC {k m : Nat} {a cs : Array Value} {b : Array (Nat × Value)} (vs : List Value) (d : b.toList = vs.zipIdx.map (fun p => (p.2, p.1))) (h : ∀ v ∈ vs, v.cells.size = k) (hm : vs.length = m) (g : a.size = m * k) (c : (vs.flatMap (fun v => v.cells.toList)).toArray = cs) : Instr.fill (fun i => some (i * k, k)) a b.toList = some cs := by
 subst hm c
 rw [d]
 have := J7 vs 0 [] a.toList h (by simp) (by simpa using g)
 simpa using this
theorem zU {P : Program} {t e : TypeId} {m k : Nat} {z : Value} {a : Array (Nat × Value)} {cs : Array Value} (vs : List Value) (h : P.underlying t = some (.slice e)) (g : ∀ w, (sizeOf e).run P w = .ok k w) (j : ∀ w, (zeroValue e).run P w = .ok z w) (hm : m * k ≤ 16777216) (d : a.toList = vs.zipIdx.map (fun p => (p.2, p.1))) (i : ∀ v ∈ vs, v.cells.size = k) (c : vs.length = m) (b : (vs.flatMap (fun v => v.cells.toList)).toArray = cs) (W : World) :
  (Instr.buildSlice t m a).run P W = .ok (.slice (some ⟨W.heap.size, 0, none⟩) m m) (W.alloc (.cells cs e (0, 0))) :=
 HB h g j hm (OC vs d i c (by simp) b) W
theorem uw {E : Nat → Value}  : (#[] : Array (Nat × Operand)).map (fun (i, x) => (i, kp E x)) = #[] := by simp
theorem nh {E : Nat → Value} {x0 : Operand} {v0 : Value} {i0 : Nat} (a : kp E x0 = v0) : (#[(i0, x0)] : Array (Nat × Operand)).map (fun (i, x) => (i, kp E x)) = #[(i0, v0)] := by simp [a]
theorem oP {E : Nat → Value} {x0 x1 : Operand} {v0 v1 : Value} {i0 i1 : Nat} (a : kp E x0 = v0) (h1 : kp E x1 = v1) : (#[(i0, x0), (i1, x1)] : Array (Nat × Operand)).map (fun (i, x) => (i, kp E x)) = #[(i0, v0), (i1, v1)] := by simp [a, h1]
theorem Hx {E : Nat → Value} {x0 x1 x2 : Operand} {v0 v1 v2 : Value} {i0 i1 i2 : Nat} (a : kp E x0 = v0) (h1 : kp E x1 = v1) (b : kp E x2 = v2) : (#[(i0, x0), (i1, x1), (i2, x2)] : Array (Nat × Operand)).map (fun (i, x) => (i, kp E x)) = #[(i0, v0), (i1, v1), (i2, v2)] := by simp [a, h1, b]
theorem RG {E : Nat → Value} {x0 x1 x2 x3 : Operand} {v0 v1 v2 v3 : Value} {i0 i1 i2 i3 : Nat} (a : kp E x0 = v0) (h1 : kp E x1 = v1) (b : kp E x2 = v2) (c : kp E x3 = v3) : (#[(i0, x0), (i1, x1), (i2, x2), (i3, x3)] : Array (Nat × Operand)).map (fun (i, x) => (i, kp E x)) = #[(i0, v0), (i1, v1), (i2, v2), (i3, v3)] := by simp [a, h1, b, c]
theorem lY {P : Program} {t : TypeId} {f off : Nat} {a : Array Field} {fd : Field} (h : P.underlying t = some (.struct a)) (c : a[f]? = some fd) {k : Nat} (g : ∀ w, (sizeOf fd.type).run P w = .ok k w) (hk : k ≠ 0) (d : fd.offset = off) : mH P t f off := by
 intro b o w
 subst d
 simp [Instr.fieldAt, aX h, c, Instr.sureAddr, fieldPlace, dL, g w, hk]
theorem Ag.L6 {n : Nat} {a : Act} {E : Nat → Value} (h : Ag n a E) {ops : Array Oper} {j t : Nat} (c : (ops[j]?).bind (·.dst) = some t) (g : t < n) (i : E t = undef) : yielded ops a.tmps j = none := by
 have b := h.2.2 t
 have d : a.tmps[t]? = some (E t) := by
  rw [← b]
  simp [eF, h.1, g]
 simp [yielded, c, d, i, undef]
theorem RM {P : Program} {n : Nat} {Q : qX} {E : Nat → Value} {W : World} {ops : Array Oper} {rest : List Oper} {o : Oper} {d j t : Nat} {want : Bool} (c : o.dst = some d) (k : d < n) (g : o.guard = some (j, want)) (i : (ops[j]?).bind (·.dst) = some t) (l : t < n) (b : E t = undef) (h : LW P n ops Q rest (oM E d undef) W) : LW P n ops Q (o :: rest) E W := fun a ha => by
 unfold wpList
 have m := ha.L6 i l b
 rw [aU (by simp [Region.wanted, g, m])]
 rw [c]
 exact h _ (ha.put k _)
theorem Sp {P : Program} {n : Nat} {Q : qX} {E : Nat → Value} {W : World} {ops : Array Oper} {rest : List Oper} {A : Value → Prop} {o : Oper} {dd : Nat} (hw : tz n ops E o) (b : o.dst = some dd) (c : dd < n) (d : ∃ p, A p ∧ ∀ W, mx P E o W p W) (h : ∀ p, A p → LW P n ops Q rest (oM E dd p) W) : LW P n ops Q (o :: rest) E W := by
 obtain ⟨p, h1, a⟩ := d
 exact HQ hw b c (a W) (h p h1)
end Go.Proofs.YtklbhegeiijbjaaGreat
namespace Go.Proofs.YtklbhegeiijbjaaGreat
open Go.RowKit
variable {dd : Bool}
theorem tS {P : Program} {n : Nat} {x : Code} {Q : qX} {E : Nat → Value} {W : World} (h : CW P n x (qW (fun E W => Q .normal E W) Q) E W) : CW P n x Q E W :=
 HF h (fun e E W h => by cases e <;> exact h)
section
variable {P : Program} {n : Nat} {Q : qX} {E : Nat → Value} {W : World} {d : Option Nat} {ty : TypeId} {pos : String} {af : Array Edge} {g : Option (Nat × Bool)}
 {F : Nat → Prop} {w : World} {μ : kL} {L : List (Nat × Obj)}
def PT (k : IntKind) (op : BinOp) (a b : Int) : Option Value :=
 match op with
 | .quo => some (.int k (k.wrap (a.tdiv b)))
 | .rem => some (.int k (a.tmod b))
 | .and => some (.int k (k.wrap (BitVec.ofInt k.bits a &&& BitVec.ofInt k.bits b).toNat))
 | .or => some (.int k (k.wrap (BitVec.ofInt k.bits a ||| BitVec.ofInt k.bits b).toNat))
 | _ => none
theorem I6 {op : BinOp} {c m : TypeId} {x y : Operand} {k : IntKind} {a b : Int} {v : Value} (j : kp E x = .int k a) (l : kp E y = .int k b) (i : b ≠ 0) (h : PT k op a b = some v) :
  mx P E ⟨d, .binOp op c x y m, ty, pos, af, g⟩ W v W := by
 show (do let r ← (do eqGuard op c x y (kp E x) (kp E y); binOp op c (kp E x) (kp E y)); pure (.value r) : Sem Next).run P W = _
 rw [j, l]
 cases op <;> simp [PT] at h <;> subst h <;> simp [eqGuard, binOp, Op.intDiv, Op.intBits, i]
theorem DR {c j : TypeId} {x y : Operand} {k k' : IntKind} {a b : Int} (h : kp E x = .int k a) (i : kp E y = .int k' b) (l : 0 ≤ b) :
  mx P E ⟨d, .binOp .shr c x y j, ty, pos, af, g⟩ W (.int k (a.fdiv (2 ^ min b.toNat k.bits))) W := by
 show (do let r ← (do eqGuard .shr c x y (kp E x) (kp E y); binOp .shr c (kp E x) (kp E y)); pure (.value r) : Sem Next).run P W = _
 rw [h, i]
 simp [eqGuard, binOp, Op.shift, show ¬ b < 0 by omega]
theorem tP {s t : TypeId} {x : Operand} {k k' : IntKind} {a : Int} {u : TypeDesc} (b : P.underlying s = some u) (c : P.underlying t = some (.int k)) (h : kp E x = .int k' a) :
  mx P E ⟨d, .convert s t x, ty, pos, af, g⟩ W (.int k (k.wrap a)) W := by
 show (do pure (.value (← convert s t (kp E x))) : Sem Next).run P W = _
 rw [h]
 simp [convert, aX b, aX c, Conv.intToInt]
theorem HH {t e : TypeId} (dd : Nat) (a : P.underlying t = some (.slice e)) (A : Option Addr) (l c : Nat) (W : World) : (Op.equalIn (dd + 1) t (.slice A l c) (.slice none 0 0)).run P W = .ok A.isNone W := by
 cases A <;> simp [Op.equalIn, aX a]
theorem yM {a k e : TypeId} {x y : Operand} {A : Option Addr} {l c : Nat} (h : P.underlying a = some (.slice e)) (i : kp E x = .slice A l c) (j : kp E y = .slice none 0 0) :
  mx P E ⟨d, .binOp .eql a x y k, ty, pos, af, g⟩ W (.bool A.isNone) W := by
 show (do let r ← (do eqGuard .eql a x y (kp E x) (kp E y); binOp .eql a (kp E x) (kp E y)); pure (.value r) : Sem Next).run P W = _
 rw [i, j]
 have b := HH 9999 h A l c W
 simp [eqGuard, binOp, Op.equal, show Op.maxDepth = 9999 + 1 from rfl, b]
def tC (s : ByteArray) : List Int := s.data.toList.map (fun b => (b.toNat : Int))
def Dh (s : ByteArray) : Option (List Int) := if s.size ≤ maxLen then some (tC s) else none
theorem pM (s : ByteArray) : (tC s).length = s.size := by simp only [tC, cR, dl]; rfl
theorem MI {s : ByteArray} {cap i : Nat} {x : Int} (h : (tC s)[i]? = some x) : (bytesRow s cap)[i]? = some (.int .u8 x) := by
 have d : i < s.size := by have := (bF.1 h).1; rwa [pM] at this
 have a : i < s.data.size := d
 simp [tC] at h
 obtain ⟨b, c, rfl⟩ := h
 rw [bytesRow, Array.getElem?_append_left (by simpa using a)]
 simp [c]
theorem IB {K : Value → World → Prop} {s t e : TypeId} {x : Operand} {str : ByteArray} {l : List Int} (c : ST dd F w W μ L) (p : P.underlying s = some .string) (o : P.underlying t = some (.slice e)) (he : P.underlying e = some (.int .u8)) (m : kp E x = .string str) (a : Dh str = some l) (h : ∀ W' v μ', ST dd F w W' μ' L → kH μ μ' → Lo F w μ μ' → Sl (Pl (mc .u8)) 1 μ' v l → Fr w.heap.size v → K v W') : nu P E ⟨d, .convert s t x, ty, pos, af, g⟩ W K := by
 unfold Dh at a
 split at a
 case isFalse => cases a
 rename_i hm
 cases a
 have k := run_bytes_of_string (P := P) W s t e str p o he
 have h1 := c.drew.alloc (.cells (bytesRow str (grownCap W str.size 0 e)) e ((bytesRow str (grownCap W str.size 0 e)).size, (bytesRow str (grownCap W str.size 0 e)).size + 1))
 refine .inl ⟨.slice (some ⟨W.heap.size, 0, none⟩) str.size (grownCap W str.size 0 e), _, ?_, h _ _ _ (ST.HY (A := []) h1) (ST.HE (A := []) h1) (ST.N1 (A := []) h1) ?_ ?_⟩
 ·show (do pure (.value (← convert s t (kp E x))) : Sem Next).run P W = _
  rw [m]
  simp only [cI, k, bQ, dt]
 ·refine ⟨_, grownCap W str.size 0 e, by rw [pM], by rw [pM]; exact grownCap_ge W str.size 0 e, iR W str.size 0 e hm, fun _ => ⟨W.heap.size, 0, bytesRow str (grownCap W str.size 0 e), e, _, rfl, aV rfl, fun i x m => ⟨_, rfl, rfl, fun j y n => ?_⟩⟩⟩
  cases j with
  | zero => simp [mc] at n; subst n; simpa using MI m
  | succ j => simp [mc] at n
 ·intro b a
  simp [Value.ownBlock] at a
  subst a
  exact c.size
def LU (l : List Int) : ByteArray := l.foldl (fun r n => r.push (UInt8.ofNat n.toNat)) ByteArray.empty
end
end Go.Proofs.YtklbhegeiijbjaaGreat
namespace Go.Proofs.YtklbhegeiijbjaaGreat
open Go.RowKit
variable {dd : Bool}
def keys (L : List (Nat × Obj)) : Nat → Prop := fun b => ∃ o, (b, o) ∈ L
structure TR (dd : Bool) (F : Nat → Prop) (w W : World) : Prop where
 os : W.os = w.os
 tape : W.tape = w.tape
 output : W.output = w.output
 drawn : tu dd w.drawn W.drawn
 size : w.heap.size ≤ W.heap.size
 mR : ∀ b, b < w.heap.size → ¬ F b → W.heap[b]? = w.heap[b]?
def DH (L : List (Nat × Obj)) (W : World) : Prop := ∀ b o, (b, o) ∈ L → W.heap[b]? = some o
structure uG (dd : Bool) (L0 L1 : List (Nat × Obj)) (w w' : World) : Prop where
 ex : TR dd (keys L0) w w'
 held : ∀ b o, (b, o) ∈ L1 → w'.heap[b]? = some o ∧ (w.heap.size ≤ b ∨ keys L0 b)
 nd : (L1.map (·.1)).Nodup
open Classical in
noncomputable def uz (w : World) (L : List (Nat × Obj)) : kL := fun b => if keys L b then none else w.heap[b]?
open Classical in
noncomputable def B9 (μ : kL) (W W' : World) (L1 : List (Nat × Obj)) : kL := fun b => if b < W.heap.size then μ b else if keys L1 b then none else W'.heap[b]?
section
variable {F : Nat → Prop} {w W W' : World} {μ μ' : kL} {L L0 L1 : List (Nat × Obj)}
theorem ST.RT (a : DH L0 w) (c : (L0.map (·.1)).Nodup) : ST dd (keys L0) w w (uz w L0) L0 :=
 ⟨rfl, rfl, rfl, tu.of (aS _), aS _, fun _ _ _ => rfl, fun b o h => by
  unfold uz at h; split at h
  ·cases h
  ·exact h, fun b o h => ⟨a b o h, by unfold uz; rw [aV ⟨o, h⟩], .inr ⟨o, h⟩⟩, c⟩
theorem Ff {A B : List (Nat × Obj)} (h : ((A ++ B).map (·.1)).Nodup) {b : Nat} {o : Obj} (a : (b, o) ∈ B) : ¬ keys A b := by
 rintro ⟨d, c⟩
 rw [cC] at h
 exact (bU.1 h).2.2 b (bG.2 ⟨_, c, rfl⟩) b (bG.2 ⟨_, a, rfl⟩) rfl
theorem ST.back (h : ST dd F w W μ (L0 ++ L)) (j : uG dd L0 L1 W W') : ST dd F w W' (B9 μ W W' L1) (L1 ++ L) := by
 have hk : ∀ b, keys L0 b → b < W.heap.size ∧ μ b = none ∧ (w.heap.size ≤ b ∨ F b) := fun b ⟨o, d⟩ => by
  obtain ⟨h1, g, m⟩ := h.box b o (bX _ d)
  exact ⟨oy h1, g, m⟩
 refine ⟨j.ex.os.trans h.os, j.ex.tape.trans h.tape, j.ex.output.trans h.output, tu.trans h.drawn j.ex.drawn, dJ h.size j.ex.size, fun b i n => ?_, fun b o d => ?_, fun b o d => ?_, ?_⟩
 ·rw [j.ex.mR b (ec i h.size) (fun k => by
   rcases (hk b k).2.2 with h | h
   ·omega
   ·exact n h)]
  exact h.mR b i n
 ·unfold B9 at d
  split at d
  ·rename_i i
   rw [j.ex.mR b i (fun k => by rw [(hk b k).2.1] at d; cases d)]
   exact h.mem b o d
  ·split at d
   ·cases d
   ·exact d
 ·rcases aQ.1 d with d | d
  ·obtain ⟨h1, g⟩ := j.held b o d
   refine ⟨h1, ?_, ?_⟩
   ·unfold B9
    split
    ·rename_i i
     rcases g with g | g
     ·omega
     ·exact (hk b g).2.1
    ·rw [aV ⟨o, d⟩]
   ·rcases g with g | g
    ·exact .inl (dJ h.size g)
    ·exact (hk b g).2.2
  ·obtain ⟨h1, g, m⟩ := h.box b o (dC _ d)
   refine ⟨?_, ?_, m⟩
   ·rw [j.ex.mR b (oy h1) (Ff h.nd d)]; exact h1
   ·unfold B9; rw [aV (oy h1)]; exact g
 ·rw [cC]
  have q : (L.map (·.1)).Nodup := by have := h.nd; rw [cC] at this; exact (bU.1 this).2.1
  refine bU.2 ⟨j.nd, q, fun a ha c r e => ?_⟩
  subst e
  obtain ⟨⟨b, o⟩, d, rfl⟩ := bG.1 ha
  obtain ⟨⟨p, s⟩, l, e⟩ := bG.1 r
  simp at e; subst e
  have i := h.Es (dC _ l)
  rcases (j.held p o d).2 with g | g
  ·omega
  ·exact Ff h.nd l g
theorem ST.Kh (h : ST dd F w W μ L) (W' : World) (L1 : List (Nat × Obj)) : Lo F w μ (B9 μ W W' L1) := fun b a _ => aV (ec a h.size)
theorem ST.Ic (h : ST dd F w W μ L) (W' : World) (L1 : List (Nat × Obj)) : kH μ (B9 μ W W' L1) := fun b o a => by
 unfold B9; rw [aV (h.Dv a)]; exact a
theorem ST.lO (h : ST dd F w W μ L) (c : ∀ p, p ∈ L0 → p ∈ L) : kH μ (uz W L0) := fun b o a => by
 unfold uz
 rw [aU]
 ·exact h.mem b o a
 ·rintro ⟨g, d⟩
  rw [(h.box b g (c _ d)).2.1] at a
  cases a
theorem uG.I2 (h : Ex dd w W) (c : ∀ b o, (b, o) ∈ L1 → W.heap[b]? = some o ∧ w.heap.size ≤ b) (d : (L1.map (·.1)).Nodup) : uG dd [] L1 w W :=
 ⟨⟨h.os, h.tape, h.output, h.drawn, h.size, fun b a _ => h.mR b a⟩, fun b o a => ⟨(c b o a).1, .inl (c b o a).2⟩, d⟩
end
def lH (dd : Bool) (P : Program) (f : FuncId) (args : List Value) (w : World) (L0 : List (Nat × Obj)) (K : Value → List (Nat × Obj) → World → Prop) : Prop :=
 Calls P f args.toArray w fun e a => ∃ v L1, e = .returned v ∧ uG dd L0 L1 w a ∧ K v L1 a
def ma (dd : Bool) {α : Type} (P : Program) (f : FuncId) (args : List Value) (w : World) (e : TypeId) (enc : α → List Value) (k : Nat) (l : List α) : Prop :=
 lH dd P f args w [] fun v R _ => kC e enc k v l R
theorem uG.lZ {L0 L1 : List (Nat × Obj)} {w a : World} (h : uG true L0 L1 w a) : uG dd L0 L1 w a := ⟨⟨h.ex.os, h.ex.tape, h.ex.output, tu.of (h.ex.drawn rfl), h.ex.size, h.ex.mR⟩, h.held, h.nd⟩
theorem kN.lZ {P : Program} {f : FuncId} {args : List Value} {w : World} {v : Value} (h : kN true P f args w v) : kN dd P f args w v := cZ h fun _ _ h => ⟨h.1, h.2.lZ⟩
theorem lH.lZ {P : Program} {f : FuncId} {args : List Value} {w : World} {L0 : List (Nat × Obj)} {K : Value → List (Nat × Obj) → World → Prop} (h : lH true P f args w L0 K) : lH dd P f args w L0 K := cZ h fun _ _ ⟨v, L1, h1, a, b⟩ => ⟨v, L1, h1, a.lZ, b⟩
theorem ma.lZ {α : Type} {P : Program} {f : FuncId} {args : List Value} {w : World} {e : TypeId} {enc : α → List Value} {k : Nat} {l : List α} (h : ma true P f args w e enc k l) : ma dd P f args w e enc k l := lH.lZ h
section
variable {P : Program} {E : Nat → Value} {W : World} {d : Option Nat} {ty : TypeId} {pos : String} {af : Array Edge} {g : Option (Nat × Bool)}
 {F : Nat → Prop} {w : World} {μ : kL} {L : List (Nat × Obj)}
theorem O2 {K : Value → World → Prop} {K' : Value → List (Nat × Obj) → World → Prop} {f : FuncId} {fv : Operand} {ax : Array Operand} {ats : Array TypeId} {caps : Array Value} {args : List Value} (L0 L2 : List (Nat × Obj)) (a : ST dd F w W μ L) (b : L.Perm (L0 ++ L2)) (k : kp E fv = .func (.func f) #[] caps) (he : ∀ args w, (callFunc f args).run P w = .ok (.enter f args) w) (ha : ax.map (kp E) ++ caps = args.toArray) (j : lH dd P f args W L0 K') (h : ∀ W' v μ' L1, ST dd F w W' μ' (L1 ++ L2) → kH μ μ' → Lo F w μ μ' → K' v L1 W' → K v W') : nu P E ⟨d, .call ⟨.value fv, ax, ats⟩, ty, pos, af, g⟩ W K :=
 Fe k he ha (cZ j (fun _ W' ⟨v, L1, h1, c, i⟩ => ⟨v, h1, h W' v _ L1 ((a.perm b).back c) ((a.perm b).Ic W' L1) ((a.perm b).Kh W' L1) i⟩))
theorem Mf {K : Value → World → Prop} {α : Type} {e : TypeId} {enc : α → List Value} {k : Nat} {l : List α} {f : FuncId} {fv : Operand} {ax : Array Operand} {ats : Array TypeId} {caps : Array Value} {args : List Value} (X Y : List (Nat × Obj)) (a : ST dd F w W μ (X ++ Y)) (m : kp E fv = .func (.func f) #[] caps) (he : ∀ args w, (callFunc f args).run P w = .ok (.enter f args) w) (ha : ax.map (kp E) ++ caps = args.toArray) (j : ma dd P f args W e enc k l) (h : ∀ W' v μ' R, ST dd F w W' μ' (X ++ (R ++ Y)) → kH μ μ' → Lo F w μ μ' → kC e enc k v l R → K v W') : nu P E ⟨d, .call ⟨.value fv, ax, ats⟩, ty, pos, af, g⟩ W K :=
 O2 [] (X ++ Y) a (.refl _) m he ha j (fun W' v μ' L1 h1 b i c => h W' v μ' L1 (h1.perm (by rw [← aK, ← aK]; exact List.perm_append_comm.append_right Y)) b i c)
end
theorem ST.nn {w W : World} {μ : kL} {L R : List (Nat × Obj)} (h : ST dd lM w W μ L) (a : ∀ p, p ∈ R → p ∈ L) (d : (R.map (·.1)).Nodup) : uG dd [] R w W :=
 uG.I2 h.ex (fun b o c => ⟨(h.box b o (a _ c)).1, by
  rcases (h.box b o (a _ c)).2.2 with h | h
  ·exact h
  ·exact h.elim⟩) d
theorem mY {P : Program} {E : Nat → Value} {W : World} {d : Option Nat} {ty : TypeId} {pos : String} {af : Array Edge} {g : Option (Nat × Bool)} {α : Type} {e' : TypeId} {enc : α → List Value} {k : Nat} {v : Value} {l : List α} {R : List (Nat × Obj)} {x : Operand} {t e : TypeId} (a : P.underlying t = some (.slice e)) (b : kp E x = v) (h : kC e' enc k v l R) : mx P E ⟨d, .call ⟨.builtin .len, #[x], #[t]⟩, ty, pos, af, g⟩ W (.int .i64 l.length) W := by
 obtain ⟨A, c, rfl⟩ := h.form
 exact zO a b
section
variable {α : Type} {e : TypeId} {enc : α → List Value} {k : Nat} {v : Value} {l : List α} {R : List (Nat × Obj)}
theorem kC.nd (h : kC e enc k v l R) : (R.map (·.1)).Nodup := by
 rcases h with ⟨rfl, rfl, rfl⟩ | ⟨g, cap, a, rfl, rfl, _⟩ <;> simp
end
end Go.Proofs.YtklbhegeiijbjaaGreat
namespace Go.Proofs.YtklbhegeiijbjaaGreat
open Go.RowKit
variable {dd : Bool}
def AE (R : List (Nat × Obj)) (k : Nat) (p : Value) (i : Nat) : Prop := ∃ g o, R = [(g, o)] ∧ p = .pointer (some ⟨g, i * k, none⟩)
section
variable {P : Program} {E : Nat → Value} {W : World} {d : Option Nat} {ty : TypeId} {pos : String} {af : Array Edge} {g : Option (Nat × Bool)}
 {F : Nat → Prop} {w : World} {μ : kL} {L : List (Nat × Obj)} {α : Type} {e' : TypeId} {enc : α → List Value} {k : Nat} {v : Value} {l : List α} {R : List (Nat × Obj)}
theorem mS {t e : TypeId} {x b : Operand} {u : IntKind} {i : Int} {x0 : α} (r : P.underlying t = some (.slice e)) (he : ∀ w, (sizeOf e).run P w = .ok k w) (s : kp E x = v) (o : kp E b = .int u i) (h : kC e' enc k v l R) (m : 0 ≤ i) (q : l[i.toNat]? = some x0) :
  ∃ p, AE R k p i.toNat ∧ ∀ W, mx P E ⟨d, .indexAddr t x b, ty, pos, af, g⟩ W p W := by
 have a : i.toNat < l.length := (bF.1 q).1
 rcases h with ⟨rfl, rfl, rfl⟩ | ⟨j, cap, c, rfl, rfl, h1, y, z, A⟩
 ·simp at a
 refine ⟨.pointer (some ⟨j, i.toNat * k, none⟩), ⟨_, _, rfl, rfl⟩, fun W => ?_⟩
 show (do pure (.value (← Instr.indexAt t (kp E x) (kp E b))) : Sem Next).run P W = _
 rw [s, o]
 have n : 0 ≤ i ∧ i < (l.length : Int) := ⟨m, by omega⟩
 simp [Instr.indexAt, asIntOf, aX r, he W, n, dL]
theorem Bc (h : kC e' enc k v l R) (hk : ∀ x, (enc x).length = k) {p : Value} {i : Nat} (hp : AE R k p i) {x0 : α} (m : l[i]? = some x0) :
  ∃ g a cap, R = [(g, .cells a e' (0, 0))] ∧ v = .slice (some ⟨g, 0, none⟩) l.length cap ∧ l.length ≤ cap ∧ cap ≤ maxLen ∧ a.size = cap * k ∧ a.toList.take (l.length * k) = (l.map enc).flatten ∧ p = .pointer (some ⟨g, i * k, none⟩) ∧ ∀ j y, (enc x0)[j]? = some y → a[i * k + j]? = some y := by
 have c : i < l.length := (bF.1 m).1
 rcases h with ⟨rfl, rfl, rfl⟩ | ⟨q, cap, a, rfl, rfl, h1, r, s, d⟩
 ·simp at c
 obtain ⟨g2, o, n, rfl⟩ := hp
 cases n
 refine ⟨q, a, cap, rfl, rfl, h1, r, s, d, rfl, fun j y t => ?_⟩
 have := xk hk l i x0 m j y t
 rw [← d] at this
 have b : i * k + j < l.length * k := by
  have := (bF.1 this).1
  simp at this; omega
 rw [dO b] at this
 simpa using this
theorem qc {A : List (Nat × Obj)} (hH : og μ A W) (c : ∀ q, q ∈ R → q ∈ A) (h : kC e' enc k v l R) (hk : ∀ x, (enc x).length = k) {p : Value} {i : Nat} (hp : AE R k p i) {x0 : α} (j : l[i]? = some x0) {t : TypeId} (d : ∀ w, (isAgg t).run P w = .ok true w) (g : ∀ w, (sizeOf t).run P w = .ok k w) : (Instr.loadAt t p).run P W = .ok (.agg (enc x0).toArray) W := by
 obtain ⟨m, a, cap, rfl, rfl, _, _, _, _, rfl, b⟩ := Bc h hk hp j
 exact CD d (enc x0) (by rw [hk]; exact g) (hH.2 _ _ (c _ (aW.2 rfl))) b
theorem uX {A : List (Nat × Obj)} (hH : og μ A W) (c : ∀ q, q ∈ R → q ∈ A) (h : kC e' enc k v l R) (hk : ∀ x, (enc x).length = k) {p : Value} {i : Nat} (hp : AE R k p i) {x0 : α} (g : l[i]? = some x0) {t : TypeId} {y : Value} (j : enc x0 = [y]) (d : ∀ w, (isAgg t).run P w = .ok false w) : (Instr.loadAt t p).run P W = .ok y W := by
 obtain ⟨m, a, cap, rfl, rfl, _, _, _, _, rfl, b⟩ := Bc h hk hp g
 exact Cx d (hH.2 _ _ (c _ (aW.2 rfl))) (b 0 y (by rw [j]; rfl))
theorem F0 (hk : ∀ x, (enc x).length = k) : ∀ (l : List α) (i : Nat) (y : α), i < l.length → ((l.set i y).map enc).flatten = (l.map enc).flatten.take (i * k) ++ enc y ++ (l.map enc).flatten.drop (i * k + k)
 | [], i, y, h => by simp at h
 | z :: l, 0, y, h => by
  simp [hk]
 | z :: l, i + 1, y, h => by
  have := F0 hk l i y (by simpa using h)
  simp only [List.set_cons_succ, bH, bM, this]
  have h1 : (i + 1) * k = (enc z).length + i * k := by rw [hk, cL]; omega
  rw [h1, iN, eu, List.drop_length_add_append]
  simp
theorem Mn {K : Value → World → Prop} (X : List (Nat × Obj)) {Y : List (Nat × Obj)} {t : TypeId} {x y : Operand} {p u : Value} {i : Nat} {x0 x1 : α} (c : ST dd F w W μ (X ++ (R ++ Y))) (h : kC e' enc k v l R) (hk : ∀ x, (enc x).length = k) (h1 : ∀ x, ∀ u ∈ enc x, u.oneCell' = true) (O : kp E x = p) (Q : kp E y = u) (hu : u.cells = (enc x1).toArray) (hp : AE R k p i) (z : l[i]? = some x0) (L : ∀ w, (sizeOf t).run P w = .ok k w) (J : ∀ W' R', ST dd F w W' μ (X ++ (R' ++ Y)) → kC e' enc k v (l.set i x1) R' → K undef W') : nu P E ⟨d, .store t x y, ty, pos, af, g⟩ W K := by
 have q : i < l.length := (bF.1 z).1
 obtain ⟨m, a, cap, rfl, rfl, s, G, o, I, rfl, T⟩ := Bc h hk hp z
 have hle : i * k + k ≤ cap * k := by
  have : (i + 1) * k ≤ cap * k := bZ _ (by omega)
  rwa [cL, jS] at this
 have j : i * k + k ≤ l.length * k := by
  have : (i + 1) * k ≤ l.length * k := bZ _ (by omega)
  rwa [cL, jS] at this
 have b : u.cells.size = k := by rw [hu]; simp [hk]
 have M := (c.box m (.cells a e' (0, 0)) (by simp)).1
 have hlen : l.length * k ≤ cap * k := bZ _ s
 refine .inr (.inl ⟨W.setRow m (a.toList.take (i * k) ++ (enc x1) ++ a.toList.drop (i * k + k)).toArray, ?_, J _ [(m, .cells (a.toList.take (i * k) ++ (enc x1) ++ a.toList.drop (i * k + k)).toArray e' (0, 0))] (c.store _) (.inr ⟨m, cap, _, by simp, rfl, by simpa using s, G, ?_, ?_⟩)⟩)
 ·show (do Instr.storeAt t (kp E x) (kp E y); pure .skip : Sem Next).run P W = _
  rw [O, Q]
  have := CH P (off := i * k) u (by rw [b]; exact L) (by rw [hu]; simpa using h1 x1) M (by rw [b, o]; exact hle)
  simp only [cI, this, bQ, dt, b]
  rw [hu]
 ·show ((a.toList.take (i * k) ++ (enc x1) ++ a.toList.drop (i * k + k)).toArray).size = _
  have n : a.toList.length = cap * k := by simpa using o
  rw [dp, aC, aC, cP, dT, hk, n, dq (by omega)]; omega
 ·rw [iH, F0 hk l i x1 q, ← I]
  have A : (a.toList.take (l.length * k)).take (i * k) = a.toList.take (i * k) := by rw [fJ]; congr 1; omega
  have D : (a.toList.take (l.length * k)).drop (i * k + k) = (a.toList.drop (i * k + k)).take (l.length * k - (i * k + k)) := by rw [gG]
  rw [A, D]
  show List.take (l.length * k) (a.toList.take (i * k) ++ enc x1 ++ a.toList.drop (i * k + k)) = _
  have n : a.toList.length = cap * k := by simpa using o
  have r : (a.toList.take (i * k) ++ enc x1).length = i * k + k := by rw [aC, cP, hk, n, dq (by omega)]
  rw [eO, dx (by rw [r]; exact j), r]
theorem BZ (hk : ∀ x, (enc x).length = k) : ∀ (l : List α) (i : Nat), i ≤ l.length → ((l.take i).map enc).flatten = (l.map enc).flatten.take (i * k)
 | [], i, h => by simp
 | z :: l, 0, h => by simp
 | z :: l, i + 1, h => by
  have := BZ hk l i (by simpa using h)
  simp only [List.take_succ_cons, bH, bM, this]
  rw [show (i + 1) * k = (enc z).length + i * k by rw [hk, cL]; omega, iN]
theorem tO {t e : TypeId} {x ih : Operand} {A : IntKind} {i : Int} (m : P.underlying t = some (.slice e)) (he : ∀ w, (sizeOf e).run P w = .ok k w) (n : kp E x = v) (j : kp E ih = .int A i) (h : kC e' enc k v l R) (hk : ∀ x, (enc x).length = k) (q : 0 ≤ i) (z : i ≤ l.length) :
  ∃ o, kC e' enc k o (l.take i.toNat) R ∧ ∀ W, mx P E ⟨d, .slice t x none (some ih) none, ty, pos, af, g⟩ W o W := by
 have a : i.toNat ≤ l.length := by omega
 rcases h with ⟨rfl, rfl, rfl⟩ | ⟨c, cap, b, rfl, rfl, h1, r, s, u⟩
 ·have : i = 0 := by simp at z; omega
  subst this
  refine ⟨.slice none 0 0, .inl ⟨rfl, by simp, rfl⟩, fun W => ?_⟩
  show (do pure (.value (← Instr.sliceAt t (kp E x) none (some (kp E ih)) none)) : Sem Next).run P W = _
  rw [n, j]
  simp [Instr.sliceAt, Instr.slice, Instr.sliceBounds, Instr.sliceBound, asIntOf, aX m, he W]
 ·refine ⟨.slice (some ⟨c, 0, none⟩) (l.take i.toNat).length cap, .inr ⟨c, cap, b, rfl, rfl, by simp; omega, r, s, ?_⟩, fun W => ?_⟩
  ·have p : (l.take i.toNat).length = i.toNat := by rw [cP]; omega
   have hle : i.toNat * k ≤ l.length * k := bZ _ a
   rw [p, BZ hk l i.toNat a, ← u, fJ, dq hle]
  ·show (do pure (.value (← Instr.sliceAt t (kp E x) none (some (kp E ih)) none)) : Sem Next).run P W = _
   rw [n, j]
   have y : 0 ≤ i ∧ i ≤ (cap : Int) := ⟨q, by omega⟩
   simp [Instr.sliceAt, Instr.slice, Instr.sliceBounds, Instr.sliceBound, asIntOf, aX m, he W, y, dL]
   omega
theorem FN {s : pW α} {t e : TypeId} {x p : Operand} {Y : IntKind} {i : Int} (R : P.underlying t = some (.slice e)) (he : ∀ w, (sizeOf e).run P w = .ok k w) (n : kp E x = v) (L : kp E p = .int Y i) (h : Sl s k μ v l) (u : 0 ≤ i) (M : i ≤ l.length) :
  ∃ r, (Sl s k μ r (l.drop i.toNat) ∧ ∀ B, Fr B v → Fr B r) ∧ ∀ W, mx P E ⟨d, .slice t x (some p) none none, ty, pos, af, g⟩ W r W := by
 obtain ⟨A, c, rfl, h2, h3, z⟩ := h
 have O : i.toNat ≤ l.length := by omega
 refine ⟨.slice (if c = i.toNat then A else A.map (·.add (i.toNat * k))) (l.drop i.toNat).length (c - i.toNat), ⟨⟨_, _, rfl, by simp; omega, by omega, fun hp => ?_⟩, fun B J b m => ?_⟩, fun W => ?_⟩
 ·have Q : i.toNat < l.length := by simp at hp; omega
  obtain ⟨b, off, cs, T, fr, rfl, D, F⟩ := z (by omega)
  refine ⟨b, off + i.toNat * k, cs, T, fr, ?_, D, fun j x n => ?_⟩
  ·rw [aU (by omega)]; simp [dL]
  ·rw [dK] at n
   obtain ⟨ys, G, I, o⟩ := F _ x n
   refine ⟨ys, G, I, fun q y U => ?_⟩
   have := o q y U
   rw [cL] at this
   rw [show off + i.toNat * k + j * k + q = off + (i.toNat * k + j * k) + q by omega]
   exact this
 ·refine J b ?_
  cases A with
  | none => simp [Value.ownBlock] at m
  | some a =>
   split at m
   ·exact m
   ·obtain ⟨b', o', Z⟩ := a
    cases Z <;> simp [Value.ownBlock, Addr.add] at m ⊢ <;> split at m <;> exact m
 ·show (do pure (.value (← Instr.sliceAt t (kp E x) (some (kp E p)) none none)) : Sem Next).run P W = _
  rw [n, L]
  have m : 0 ≤ i ∧ i ≤ (l.length : Int) := ⟨u, M⟩
  simp [Instr.sliceAt, Instr.slice, Instr.sliceBounds, Instr.sliceBound, asIntOf, aX R, he W, m]
end
end Go.Proofs.YtklbhegeiijbjaaGreat
namespace Go.Proofs.YtklbhegeiijbjaaGreat
open Go.RowKit
variable {dd : Bool}
section
variable {α : Type} {e : TypeId} {enc : α → List Value} {k : Nat} {v : Value} {l : List α} {R : List (Nat × Obj)} {μ : kL}
theorem kC.one (h : kC e enc k v l R) : v.oneCell' = true := by obtain ⟨A, c, rfl⟩ := h.form; rfl
theorem Sl.one {a : pW α} (h : Sl a k μ v l) : v.oneCell' = true := by obtain ⟨A, c, rfl⟩ := h.form; rfl
theorem Sl.isNil {d : pW α} {n c : Nat} (h : Sl d k μ (.slice none n c) l) : l = [] := by
 obtain ⟨A, j, h1, m, o, g⟩ := h
 cases h1
 rcases ed l.length with a | a
 ·exact ee.1 a
 ·obtain ⟨b, off, cs, T, fr, i, _⟩ := g a
  cases i
theorem kC.isNil {n c : Nat} (h : kC e enc k (.slice none n c) l R) : l = [] := by
 rcases h with ⟨h1, rfl, rfl⟩ | ⟨g, cap, a, h1, _⟩
 ·rfl
 ·cases h1
theorem ST.SH {w W : World} {μ : kL} {L1 L2 : List (Nat × Obj)} (h : ST dd lM w W μ (L1 ++ L2)) : uG dd [] L1 w W :=
 uG.I2 h.ex (fun b o a => ⟨(h.box b o (bX _ a)).1, by
  rcases (h.box b o (bX _ a)).2.2 with h | h
  ·exact h
  ·exact h.elim⟩) (by have := h.nd; rw [cC] at this; exact (bU.1 this).1)
theorem ST.SK {w W : World} {μ : kL} {L0 L1 L2 : List (Nat × Obj)} (h : ST dd (keys L0) w W μ (L1 ++ L2)) : uG dd L0 L1 w W :=
 ⟨⟨h.os, h.tape, h.output, h.drawn, h.size, h.mR⟩, fun b o a => ⟨(h.box b o (bX _ a)).1, (h.box b o (bX _ a)).2.2⟩, by have := h.nd; rw [cC] at this; exact (bU.1 this).1⟩
end
end Go.Proofs.YtklbhegeiijbjaaGreat
namespace Go.Proofs.YtklbhegeiijbjaaGreat
open Go.RowKit
variable {dd : Bool}
def lU {κ β : Type} (beq : κ → κ → Bool) (l : List (κ × β)) (k : κ) : Option β := (l.find? (fun p => beq k p.1)).map (·.2)
def nR {κ β : Type} (beq : κ → κ → Bool) (l : List (κ × β)) (k : κ) (v : β) : List (κ × β) :=
 match l.findIdx? (fun p => beq k p.1) with
 | some i => l.set i (k, v)
 | none => l ++ [(k, v)]
structure vh {κ β : Type} (kenc : κ → Value) (vf : β → Value) (l : List (κ × β)) (es : Array MapEntry) (clock : Nat) : Prop where
 Fq : es.toList.map (fun e => (e.key, e.val)) = l.map (fun p => (kenc p.1, vf p.2))
 born : es.toList.Pairwise (fun a b => a.born < b.born)
 lt : ∀ e ∈ es.toList, e.born < clock
def lX {κ β : Type} (kenc : κ → Value) (vf : β → Value) (v : Value) (l : List (κ × β)) (R : List (Nat × Obj)) : Prop :=
 ∃ m es clock, v = .map (some m) ∧ R = [(m, .map es clock)] ∧ vh kenc vf l es clock
def vi {κ β : Type} (kenc : κ → Value) (vf : β → Value) (μ : kL) (v : Value) (l : List (κ × β)) : Prop :=
 (v = .map none ∧ l = []) ∨ ∃ m es clock, v = .map (some m) ∧ μ m = some (.map es clock) ∧ vh kenc vf l es clock
theorem vi.mono {κ β : Type} {kenc : κ → Value} {vf : β → Value} {μ μ' : kL} {v : Value} {l : List (κ × β)} (h : vi kenc vf μ v l) (c : kH μ μ') : vi kenc vf μ' v l := by
 rcases h with h | ⟨m, es, clock, h1, a, b⟩
 ·exact .inl h
 ·exact .inr ⟨m, es, clock, h1, c _ _ a, b⟩
theorem lX.at {κ β : Type} {kenc : κ → Value} {vf : β → Value} {μ : kL} {v : Value} {l : List (κ × β)} {R : List (Nat × Obj)} (h : lX kenc vf v l R) (c : ∀ b o, (b, o) ∈ R → μ b = some o) : vi kenc vf μ v l := by
 obtain ⟨m, es, clock, rfl, rfl, a⟩ := h
 exact .inr ⟨m, es, clock, rfl, c _ _ (aW.2 rfl), a⟩
structure pb {κ : Type} (P : Program) (kt : TypeId) (kenc : κ → Value) (beq : κ → κ → Bool) : Prop where
 check : ∀ b k W, (Instr.checkKey b 10000 kt (kenc k)).run P W = .ok () W
 find : ∀ (k : κ) (l : List κ) (es : List MapEntry), es.map (·.key) = l.map kenc → ∀ W, (Instr.findKey kt (kenc k) es).run P W = .ok ((l.findIdx? (fun x => beq k x)).bind fun i => (es[i]?).map fun e => (i, e.val)) W
 eq : ∀ k x, beq k x = true → kenc x = kenc k
 bits : ∀ k, Instr.sameBits 10000 (kenc k) (kenc k) = true
section
variable {P : Program} {W : World} {κ : Type} {kt : TypeId} {kenc : κ → Value} {beq : κ → κ → Bool}
theorem CP (a : ∀ x y W, (Op.equal kt (kenc x) (kenc y)).run P W = .ok (beq x y) W) (k : κ) : ∀ (l : List κ) (es : List MapEntry) (i : Nat), es.map (·.key) = l.map kenc →
  (Instr.findAsking kt (kenc k) es i).run P W = .ok ((l.findIdx? (fun x => beq k x)).bind fun j => (es[j]?).map fun e => (i + j, e.val)) W
 | [], [], i, h => by simp [Instr.findAsking]
 | [], _ :: _, i, h => by simp at h
 | _ :: _, [], i, h => by simp at h
 | x :: l, e :: es, i, h => by
  simp only [bH, bO] at h
  obtain ⟨h1, b⟩ := h
  simp only [Instr.findAsking, cI, h1, a, bQ, eT]
  cases c : beq k x with
  | true => simp
  | false =>
   simp only [aB, aN]
   rw [CP a k l es (i + 1) b]
   cases l.findIdx? (fun x => beq k x) with
   | none => rfl
   | some j => simp [eu, Nat.add_comm 1 j]
theorem KD {kind : TypeDesc} (hk : ∀ a b, Instr.sameNow kind (.agg a) b = none) (a : Array Value) : ∀ (es : List MapEntry) (i : Nat), Instr.findNow kind (.agg a) es i = if es = [] then some none else none
 | [], i => by simp [Instr.findNow]
 | e :: es, i => by simp [Instr.findNow, hk]
theorem pb.struct {enc : κ → List Value} {i : Array Field} (o : P.underlying kt = some (.struct i)) (n : ∀ d x y W, (Op.equalIn (d + 10) kt (.agg (enc x).toArray) (.agg (enc y).toArray)).run P W = .ok (beq x y) W) (m : ∀ b k W, (Instr.checkKey b 10000 kt (.agg (enc k).toArray)).run P W = .ok () W) (he : ∀ k x, beq k x = true → x = k) (j : ∀ k, Instr.sameBits 10000 (.agg (enc k).toArray) (.agg (enc k).toArray) = true) : pb P kt (fun x => .agg (enc x).toArray) beq where
 check := m
 find := fun k l es h W => by
  have c : ∀ x y W, (Op.equal kt (.agg (enc x).toArray) (.agg (enc y).toArray)).run P W = .ok (beq x y) W := fun x y W => n 9990 x y W
  simp only [Instr.findKey, cI, aX o, bQ]
  rw [KD (fun a b => by cases b <;> rfl)]
  by_cases g : es = []
  ·subst g
   have : l = [] := by simpa using h.symm
   subst this
   simp
  ·rw [aU g]
   dsimp only
   rw [show Instr.findAsking kt (.agg (enc k).toArray) es = Instr.findAsking kt (.agg (enc k).toArray) es 0 from rfl, CP c k l es 0 h]
   simp
 eq := fun k x h => by rw [he k x h]
 bits := j
theorem mJ {a b : ByteArray} : lK a b = true ↔ a = b := by
 unfold lK
 rw [fk, fk]
 constructor
 ·intro h
  have h1 : a.data.toList = b.data.toList := by simpa using h
  exact js (Array.toList_inj.1 h1)
 ·rintro rfl
  simp
theorem BN (a b : ByteArray) : (a == b) = lK a b := by
 rw [bR, mJ]
 constructor
 ·intro h
  have h1 : (a.data == b.data) = true := h
  exact js (by simpa using h1)
 ·rintro rfl
  show (a.data == a.data) = true
  simp
theorem CT (k : ByteArray) : ∀ (l : List ByteArray) (es : List MapEntry) (i : Nat), es.map (·.key) = l.map Value.string →
  Instr.findNow .string (.string k) es i = some ((l.findIdx? (fun x => lK k x)).bind fun j => (es[j]?).map fun e => (i + j, e.val))
 | [], [], i, h => by simp [Instr.findNow]
 | [], _ :: _, i, h => by simp at h
 | _ :: _, [], i, h => by simp at h
 | x :: l, e :: es, i, h => by
  simp only [bH, bO] at h
  obtain ⟨h1, a⟩ := h
  simp only [Instr.findNow, h1, Instr.sameNow, BN, eT]
  cases b : lK k x with
  | true => simp
  | false =>
   simp only [aB, aN]
   rw [CT k l es (i + 1) a]
   cases l.findIdx? (fun x => lK k x) with
   | none => rfl
   | some j => simp [eu, Nat.add_comm 1 j]
theorem sP (a : P.underlying kt = some .string) (n : Nat) (b : Bool) (k : ByteArray) (W : World) : (Instr.checkKey b (n + 1) kt (.string k)).run P W = .ok () W := by
 simp [Instr.checkKey, aX a]
theorem pb.string (a : P.underlying kt = some .string) : pb P kt Value.string lK where
 check := fun b k W => sP a 9999 b k W
 find := fun k l es h W => by
  simp only [Instr.findKey, cI, aX a, bQ]
  have := CT k l es 0 h
  rw [this]
  simp
 eq := fun k x h => by rw [mJ.1 h]
 bits := fun k => by simp only [Instr.sameBits]; rw [BN]; exact mJ.2 rfl
variable {β : Type} {vf : β → Value} {E : Nat → Value} {d : Option Nat} {ty : TypeId} {pos : String} {af : Array Edge} {g : Option (Nat × Bool)} {F : Nat → Prop} {w : World} {μ : kL} {L : List (Nat × Obj)}
theorem vh.keys {l : List (κ × β)} {es : Array MapEntry} {clock : Nat} (h : vh kenc vf l es clock) : es.toList.map (·.key) = (l.map (·.1)).map kenc := by
 have := aR (List.map Prod.fst) h.Fq
 simpa [fE] using this
theorem vh.length {l : List (κ × β)} {es : Array MapEntry} {clock : Nat} (h : vh kenc vf l es clock) : es.size = l.length := by
 have := aR List.length h.Fq
 simpa using this
theorem vh.get {l : List (κ × β)} {es : Array MapEntry} {clock : Nat} (h : vh kenc vf l es clock) (k : κ) :
  (((l.map (·.1)).findIdx? (fun x => beq k x)).bind fun i => (es.toList[i]?).map fun e => (i, e.val)) = (l.findIdx? (fun p => beq k p.1)).bind fun i => (l[i]?).map fun p => (i, vf p.2) := by
 rw [gH]
 show ((l.findIdx? (fun p => beq k p.1)).bind _) = _
 congr 1
 funext i
 have := aR (fun q => q[i]?) h.Fq
 simp only [dH] at this
 cases h1 : es.toList[i]? with
 | none => rw [h1] at this; cases a : l[i]? with
  | none => rfl
  | some p => rw [a] at this; cases this
 | some e => rw [h1] at this; cases a : l[i]? with
  | none => rw [a] at this; cases this
  | some p => rw [a] at this; simp at this; simp [this.2]
theorem yy (l : List (κ × β)) (k : κ) : lU beq l k = (l.findIdx? (fun p => beq k p.1)).bind fun i => (l[i]?).map (·.2) := by
 induction l with
 | nil => rfl
 | cons p l ih =>
  simp only [lU, gf, eT] at ih ⊢
  cases beq k p.1 with
  | true => rfl
  | false =>
   simp only [aB, aN]
   rw [ih]
   cases l.findIdx? (fun p => beq k p.1) <;> simp
theorem Jp {t e : TypeId} {m x : Operand} {q z : Value} {l : List (κ × β)} {k : κ} (K : pb P kt kenc beq) (n : P.underlying t = some (.map kt e)) (b : ∀ w, (zeroValue e).run P w = .ok z w) (hm : kp E m = q) (v : kp E x = kenc k) (s : vi kenc vf (hp W) q l) :
  mx P E ⟨d, .lookup t m x false, ty, pos, af, g⟩ W (((lU beq l k).map vf).getD z) W := by
 show (do pure (.value (← Instr.lookup t (kp E m) (kp E x) false)) : Sem Next).run P W = _
 rw [hm, v]
 rcases s with ⟨rfl, rfl⟩ | ⟨o, es, clock, rfl, u, c⟩
 ·have := K.find k [] [] rfl W
  simp [Instr.lookup, aX n, K.check, this, b W, lU]
 ·have a : W.heap[o]? = some (.map es clock) := u
  have r : (getObj o : Sem Obj).run P W = .ok (.map es clock) W := by simp [getObj, Sem.run, a]
  have h := K.find k _ _ c.keys W
  rw [c.get k] at h
  simp only [Instr.lookup, cI, aX n, bQ, r, dt, K.check, h, yy]
  cases y : l.findIdx? (fun p => beq k p.1) with
  | none => simp [b W]
  | some i =>
   cases j : l[i]? with
   | none => simp [j, b W]
   | some p => simp [j]
theorem sG {l : List (κ × β)} {k : κ} {i : Nat} (h : l.findIdx? (fun p => beq k p.1) = some i) : ∃ p, l[i]? = some p ∧ beq k p.1 = true := by
 rw [ei] at h
 obtain ⟨h1, a, _⟩ := h
 exact ⟨l[i], cF h1, a⟩
theorem vh.put {l : List (κ × β)} {es : Array MapEntry} {clock : Nat} (h : vh kenc vf l es clock) (k : κ) (v : β) :
  match l.findIdx? (fun p => beq k p.1) with
  | some i => vh kenc vf (l.set i (k, v)) (es.modify i fun e => { e with key := kenc k, val := vf v }) clock
  | none => vh kenc vf (l ++ [(k, v)]) (es.push { key := kenc k, val := vf v, born := clock }) (clock + 1) := by
 cases o : l.findIdx? (fun p => beq k p.1) with
 | none =>
  refine ⟨?_, ?_, ?_⟩
  ·simp [h.Fq]
  ·simp only [Array.toList_push, dm]
   exact ⟨h.born, by simp, fun a ha b n => by simp at n; subst n; exact h.lt a ha⟩
  ·intro e he
   simp at he
   rcases he with he | rfl
   ·exact Nat.lt_succ_of_lt (h.lt e (by simpa using he))
   ·exact bD _
 | some i =>
  obtain ⟨p, hp, _⟩ := sG o
  have t : i < l.length := (bF.1 hp).1
  have c : (es.modify i fun e => { e with key := kenc k, val := vf v }).toList.map (·.born) = es.toList.map (·.born) := by
   apply dQ
   intro j
   simp only [dH, du, dW]
   split
   ·cases es[j]? <;> simp
   ·rfl
  refine ⟨?_, ?_, ?_⟩
  ·apply dQ
   intro j
   have g := aR (fun q => q[j]?) h.Fq
   simp only [dH, du] at g
   simp only [dH, du, dW, fc]
   by_cases d : i = j
   ·subst d
    simp only [aZ]
    rw [aV t]
    cases r : es[i]? with
    | none => rw [r, hp] at g; cases g
    | some e => rfl
   ·rw [aU d, aU d]; exact g
  ·have := h.born
   rw [← fF (f := fun e : MapEntry => e.born) (R := (· < ·))] at this ⊢
   rw [c]; exact this
  ·intro e he
   have : e.born ∈ es.toList.map (·.born) := by rw [← c]; exact bG.2 ⟨e, he, rfl⟩
   obtain ⟨e', m, s⟩ := bG.1 this
   rw [← s]; exact h.lt e' m
theorem yU {W : World} {r : Nat} {es : Array MapEntry} {c : Nat} (b : W.heap[r]? = some (.map es c)) (a : Obj) : (setObj r a).run P W = .ok () (ChangeMaps.setBlock W r a) := by
 simp [setObj, Sem.run, b, ChangeMaps.setBlock]
theorem ST.setBlock {A B : List (Nat × Obj)} {b : Nat} {o : Obj} (h : ST dd F w W μ (A ++ (b, o) :: B)) (c : Obj) : ST dd F w (ChangeMaps.setBlock W b c) μ (A ++ (b, c) :: B) := by
 have d := (h.box b o (by simp)).1
 have a := oy d
 refine h.put ⟨rfl, rfl, rfl, aS _, by simp [ChangeMaps.setBlock]⟩ (fun k hk => ?_) ?_
 ·simp only [ChangeMaps.setBlock]
  rw [Array.getElem?_setIfInBounds_ne (fun e => hk e.symm)]
 ·simp only [ChangeMaps.setBlock]
  rw [Array.getElem?_setIfInBounds_self_of_lt a]
theorem zY {D : Value → World → Prop} (X : List (Nat × Obj)) {Y R : List (Nat × Obj)} {t e : TypeId} {m x y : Operand} {A : Value} {l : List (κ × β)} {k : κ} {v : β} (K : pb P kt kenc beq) (J : P.underlying t = some (.map kt e)) (j : ST dd F w W μ (X ++ (R ++ Y))) (h : lX kenc vf A l R) (hm : kp E m = A) (M : kp E x = kenc k) (O : kp E y = vf v) (I : ∀ W' R', ST dd F w W' μ (X ++ (R' ++ Y)) → lX kenc vf A (nR beq l k v) R' → D undef W') : nu P E ⟨d, .mapUpdate t m x y, ty, pos, af, g⟩ W D := by
 obtain ⟨b, es, clock, rfl, rfl, s⟩ := h
 have u : W.heap[b]? = some (.map es clock) := (j.box b (.map es clock) (by simp)).1
 have G : (getObj b : Sem Obj).run P W = .ok (.map es clock) W := by simp [getObj, Sem.run, u]
 have n := K.find k _ _ s.keys W
 rw [s.get k] at n
 have a := s.put (beq := beq) k v
 have c : ∀ W', (Instr.mapUpdate t (.map (some b)) (kenc k) (vf v)).run P W = .ok () W' → (execOp (kp E) ⟨d, .mapUpdate t m x y, ty, pos, af, g⟩).run P W = .ok .skip W' := by
  intro W' L
  show (do Instr.mapUpdate t (kp E m) (kp E x) (kp E y); pure .skip : Sem Next).run P W = _
  rw [hm, M, O]
  simp [L]
 cases o : l.findIdx? (fun p => beq k p.1) with
 | none =>
  rw [o] at n a
  refine .inr (.inl ⟨ChangeMaps.setBlock W b (.map (es.push { key := kenc k, val := vf v, born := clock }) (clock + 1)), c _ ?_, I _ [(b, _)] (j.setBlock _) ⟨b, _, _, rfl, rfl, ?_⟩⟩)
  ·simp [Instr.mapUpdate, aX J, G, K.check, n, yU u]
  ·rw [nR, o]; exact a
 | some i =>
  obtain ⟨p, hp, z⟩ := sG o
  rw [o] at n a
  simp only [aA, hp, dN] at n
  have r : ((es[i]?).map (·.key)).getD (kenc k) = kenc k := by
   have := aR (fun q => q[i]?) s.keys
   simp only [dH, hp, dN, du] at this
   rw [this]
   simp [K.eq k p.1 z]
  refine .inr (.inl ⟨ChangeMaps.setBlock W b (.map (es.modify i fun e => { e with key := kenc k, val := vf v }) clock), c _ ?_, I _ [(b, _)] (j.setBlock _) ⟨b, _, _, rfl, rfl, ?_⟩⟩)
  ·simp only [Instr.mapUpdate, cI, aX J, G, K.check, n, bQ, r, Instr.keyThatStays, K.bits, aZ, dt]
   exact yU u _
  ·rw [nR, o]; exact a
theorem BP {b : Value → World → Prop} {t : TypeId} (kenc : κ → Value) (vf : β → Value) (a : ST dd F w W μ L) (c : ∀ W' v R, ST dd F w W' μ (R ++ L) → lX kenc vf v [] R → b v W') : nu P E ⟨d, .makeMap t none, ty, pos, af, g⟩ W b :=
 .inl ⟨.map (some W.heap.size), W.alloc (.map #[] 0), by
   show (do pure (.value (← Instr.makeMap t none)) : Sem Next).run P W = _
   simp [Instr.makeMap, newObj, Sem.run], c _ _ [(W.heap.size, .map #[] 0)] (a.alloc _) ⟨_, _, _, rfl, rfl, ⟨rfl, by simp, by simp⟩⟩⟩
end
end Go.Proofs.YtklbhegeiijbjaaGreat
namespace Go.Proofs.YtklbhegeiijbjaaGreat
open Go.RowKit
variable {dd : Bool}
open Classical in
noncomputable def EQ {α β : Type} (l : List α) (f : List α → Option β) : Option β :=
 if h : ∃ r, ∀ o, o.Perm l → f o = some r then some h.choose else none
theorem GC {α β : Type} {l : List α} {f : List α → Option β} {r : β} (h : ∀ o, o.Perm l → f o = some r) : EQ l f = some r := by
 have a : ∃ r, ∀ o, o.Perm l → f o = some r := ⟨r, h⟩
 unfold EQ
 rw [dif_pos a]
 have h1 := a.choose_spec l (.refl l)
 rw [h l (.refl l)] at h1
 exact h1.symm
end Go.Proofs.YtklbhegeiijbjaaGreat
namespace Go.Proofs.YtklbhegeiijbjaaGreat
open Go.RowKit
variable {dd : Bool}
def FR {α β : Type} (P : Program) (fv : Value) (μ : kL) (a : α → List Value) (b : β → Value) (pm : α → Option β) : Prop :=
 ∃ f caps, fv = .func (.func f) #[] caps ∧ (∀ args w, (callFunc f args).run P w = .ok (.enter f args) w) ∧ ∀ W x r, kH μ (hp W) → pm x = some r → kN true P f (a x ++ caps.toList) W (b r)
def te {α β : Type} (P : Program) (fv : Value) (μ : kL) (a : α → List Value) (b : β → Value) (pm : α → Option β) : Prop :=
 ∃ f first caps, fv = .func (.func f) first caps ∧ (∀ args w, (callFunc f args).run P w = .ok (.enter f args) w) ∧ ∀ W x r, kH μ (hp W) → pm x = some r → kN false P f (first.toList ++ (a x ++ caps.toList)) W (b r)
theorem te.form {α β : Type} {P : Program} {fv : Value} {μ : kL} {c : α → List Value} {d : β → Value} {pm : α → Option β} (h : te P fv μ c d pm) : ∃ f a b, fv = .func f a b := let ⟨f, a, b, h, _⟩ := h; ⟨_, a, b, h⟩
section
variable {P : Program} {W : World} {E : Nat → Value} {d : Option Nat} {ty : TypeId} {pos : String} {af : Array Edge} {g : Option (Nat × Bool)} {F : Nat → Prop} {w : World} {μ μ0 : kL} {L : List (Nat × Obj)}
theorem te.mono {α β : Type} {fv : Value} {a : α → List Value} {b : β → Value} {pm : α → Option β} (h : te P fv μ a b pm) (g : kH μ μ0) : te P fv μ0 a b pm := by
 obtain ⟨f, first, caps, h1, c, d⟩ := h
 exact ⟨f, first, caps, h1, c, fun W x r h => d W x r (g.trans h)⟩
theorem zQ {α β : Type} {K : Value → World → Prop} {fv : Value} {b : α → List Value} {j : β → Value} {pm : α → Option β} {c : Operand} {ax : Array Operand} {ats : Array TypeId} (x : α) {r : β} (a : ST false F w W μ L) (o : te P fv μ0 b j pm) (q : kH μ0 μ) (p : kp E c = fv) (ha : ax.map (kp E) ++ (#[] : Array Value) = (b x).toArray) (hm : pm x = some r) (h : ∀ W', ST false F w W' μ L → K (j r) W') : nu P E ⟨d, .call ⟨.value c, ax, ats⟩, ty, pos, af, g⟩ W K := by
 obtain ⟨f, first, caps, rfl, k, l⟩ := o
 have i : ax.map (kp E) = (b x).toArray := by simpa using ha
 refine .inr (.inr ⟨f, (first.toList ++ (b x ++ caps.toList)).toArray, ?_, cZ (l W x r (q.trans a.kw) hm) (fun _ _ ⟨m, n⟩ => ⟨_, m, h _ (a.Fg n)⟩)⟩)
 show (do let d ← resolve (kp E) ⟨.value c, ax, ats⟩ ty; invoke d.target d.args : Sem Next).run P W = _
 simp only [resolve, p, Deferred.ofValue, cI, dt, bQ, invoke, i, k]
 congr 2
 simp
end
end Go.Proofs.YtklbhegeiijbjaaGreat
namespace Go.Proofs.YtklbhegeiijbjaaGreat
open Go.RowKit
variable {dd : Bool}
def zJ (A : List (Nat × Obj)) : kL := fun b => (A.find? (fun p => p.1 == b)).map (·.2)
theorem mE {A : List (Nat × Obj)} {W : World} (h : ∀ b o, (b, o) ∈ A → W.heap[b]? = some o) : ∀ b o, zJ A b = some o → W.heap[b]? = some o := fun b o a => by
 unfold zJ at a
 cases c : A.find? (fun p => p.1 == b) with
 | none => rw [c] at a; cases a
 | some p =>
  rw [c] at a
  cases a
  have h1 := fT c
  have d := jR c
  simp at d
  subst d
  exact h _ _ h1
theorem At.of {M : kL} {b : Nat} {cs : Array Value} {T : TypeId} {fr : Nat × Nat} (h : M b = some (.cells cs T fr)) (ys : List Value) (c : cs.toList = ys) : At M (.pointer (some ⟨b, 0, none⟩)) ys :=
 ⟨b, 0, cs, T, fr, rfl, h, fun j y a => by subst c; simpa using a⟩
section
variable {F : Nat → Prop} {w W W' : World} {μ μ' : kL} {L L0 L1 L2 : List (Nat × Obj)}
theorem ST.LC (h : ST dd F w W μ L) (a : L.Perm (L0 ++ L2)) : ∀ b o, (b, o) ∈ L2 → uz W L0 b = some o := fun b o c => by
 have h1 := (h.perm a).at_ (dC _ c)
 unfold uz
 rw [aU (Ff (h.perm a).nd c)]
 exact h1
theorem ST.held (h : ST dd F w W μ L) (a : L.Perm (L0 ++ L2)) : DH L0 W := fun b o c => ((h.perm a).box b o (bX _ c)).1
theorem ST.Rq (h : ST dd F w W μ L) (a : L.Perm (L0 ++ L2)) : (L0.map (·.1)).Nodup := by
 have := (h.perm a).nd
 rw [cC] at this
 exact (bU.1 this).1
theorem ST.R5 (h : ST dd F w W μ L) (a : L.Perm (L0 ++ L2)) : kH μ (uz W L0) := (h.perm a).lO (fun _ hp => bX _ hp)
end
section
variable {P : Program} {E : Nat → Value} {W : World} {d : Option Nat} {ty : TypeId} {pos : String} {af : Array Edge} {g : Option (Nat × Bool)}
 {F : Nat → Prop} {w : World} {μ : kL} {L : List (Nat × Obj)}
theorem Qt {K : Value → World → Prop} {K' : Value → List (Nat × Obj) → World → Prop} {f : FuncId} {fv : Operand} {ax : Array Operand} {ats : Array TypeId} {caps : Array Value} {args : List Value} (L0 L2 : List (Nat × Obj)) (a : ST dd F w W μ L) (c : L.Perm (L0 ++ L2)) (m : kp E fv = .func (.func f) #[] caps) (he : ∀ args w, (callFunc f args).run P w = .ok (.enter f args) w) (ha : ax.map (kp E) ++ (#[] : Array Value) = args.toArray) (l : DH L0 W → (L0.map (·.1)).Nodup → kH μ (uz W L0) → (∀ b o, (b, o) ∈ L2 → uz W L0 b = some o) → lH dd P f (args ++ caps.toList) W L0 K') (h : ∀ W' v μ' L1, ST dd F w W' μ' (L1 ++ L2) → kH μ μ' → Lo F w μ μ' → (∀ b, W.heap.size ≤ b → ∀ o, uz W' L1 b = some o → μ' b = some o) → K' v L1 W' → K v W') : nu P E ⟨d, .call ⟨.value fv, ax, ats⟩, ty, pos, af, g⟩ W K := by
 have i : ax.map (kp E) = args.toArray := by simpa using ha
 refine Fe (args := (args ++ caps.toList).toArray) m he (by rw [i]; simp) (cZ (l (a.held c) (a.Rq c) (a.R5 c) (a.LC c)) (fun _ W' ⟨v, L1, h1, j, k⟩ => ⟨v, h1, h W' v _ L1 ((a.perm c).back j) ((a.perm c).Ic W' L1) ((a.perm c).Kh W' L1) ?_ k⟩))
 intro b p o n
 unfold B9
 rw [aU (by omega)]
 exact n
theorem Sl.lift {α : Type} {enc : α → List Value} {k : Nat} {M μ' : kL} {B : Nat} {v : Value} {l : List α} (h : Sl (Pl enc) k M v l) (p : Fr B v) (n : ∀ b, B ≤ b → ∀ o, M b = some o → μ' b = some o) : Sl (Pl enc) k μ' v l := by
 obtain ⟨A, c, h1, d, g, i⟩ := h
 refine ⟨A, c, h1, d, g, fun q => ?_⟩
 obtain ⟨b, off, cs, T, fr, a, j, m⟩ := i q
 exact ⟨b, off, cs, T, fr, a, n b (p b (by rw [h1, a]; rfl)) _ j, m⟩
theorem Be {t : TypeId} (dd : Nat) {s u : Array TypeId} {b : Bool} (d : P.underlying t = some (.func s u b)) (f : Fn) (a c : Array Value) (W : World) : (Op.equalIn (dd + 1) t (.func f a c) .nilFunc).run P W = .ok false W := by
 simp [Op.equalIn, aX d]
theorem KA {c l : TypeId} {x y : Operand} {f : Fn} {a b : Array Value} {s u : Array TypeId} {bb : Bool} (i : P.underlying c = some (.func s u bb)) (j : kp E x = .func f a b) (k : kp E y = .nilFunc) :
  mx P E ⟨d, .binOp .eql c x y l, ty, pos, af, g⟩ W (.bool false) W := by
 show (do let r ← (do eqGuard .eql c x y (kp E x) (kp E y); binOp .eql c (kp E x) (kp E y)); pure (.value r) : Sem Next).run P W = _
 rw [j, k]
 have h := Be 9999 i f a b W
 simp [eqGuard, binOp, Op.equal, show Op.maxDepth = 9999 + 1 from rfl, h]
end
def xH {κ β : Type} (beq : κ → κ → Bool) (l : List (κ × β)) (k : κ) (z : β) : β := (lU beq l k).getD z
section
variable {P : Program} {W : World} {κ β : Type} {kt : TypeId} {kenc : κ → Value} {beq : κ → κ → Bool} {vf : β → Value} {E : Nat → Value} {d : Option Nat} {ty : TypeId} {pos : String} {af : Array Edge} {g : Option (Nat × Bool)} {F : Nat → Prop} {w : World} {μ : kL} {L R : List (Nat × Obj)} {v : Value} {left : List (κ × β)}
theorem vG {t e : TypeId} {m x : Operand} {a : Value} {l : List (κ × β)} {k : κ} {z : β} (K : pb P kt kenc beq) (c : P.underlying t = some (.map kt e)) (j : ∀ w, (zeroValue e).run P w = .ok (vf z) w) (hm : kp E m = a) (i : kp E x = kenc k) (b : vi kenc vf (hp W) a l) :
  mx P E ⟨d, .lookup t m x false, ty, pos, af, g⟩ W (vf (xH beq l k z)) W := by
 have := Jp (d := d) (ty := ty) (pos := pos) (af := af) (g := g) K c j hm i b
 rw [xH]
 cases h : lU beq l k with
 | none => rw [h] at this; exact this
 | some y => rw [h] at this; exact this
theorem lX.one {a : Value} {l : List (κ × β)} (h : lX kenc vf a l R) : a.oneCell' = true := by obtain ⟨m, es, clock, rfl, _⟩ := h; rfl
theorem lX.form {a : Value} {l : List (κ × β)} (h : lX kenc vf a l R) : ∃ m, a = .map (some m) := by obtain ⟨m, es, clock, rfl, _⟩ := h; exact ⟨m, rfl⟩
theorem lX.nd {a : Value} {l : List (κ × β)} (h : lX kenc vf a l R) : (R.map (·.1)).Nodup := by obtain ⟨m, es, clock, rfl, rfl, _⟩ := h; simp
theorem lX.D1 {a : Value} {l : List (κ × β)} (h : lX kenc vf a l R) : vi kenc vf (zJ R) a l := by
 obtain ⟨m, es, clock, rfl, rfl, b⟩ := h
 exact .inr ⟨m, es, clock, rfl, by simp [zJ], b⟩
end
def nD {α : Type} (l : List α) (i : Nat) (z : α) : List α := l.take i ++ List.replicate (l.length - i) z
theorem uL {α : Type} (l : List α) (i : Nat) (z : α) (h : i ≤ l.length) : (nD l i z).length = l.length := by simp [nD]; omega
theorem FX {α : Type} (l : List α) (i : Nat) (z : α) (h : i ≤ l.length) : (nD l i z).take i = l.take i := by
 simp only [nD]
 rw [eO, dx (by simp; omega)]
 simp; omega
end Go.Proofs.YtklbhegeiijbjaaGreat
namespace Go.Proofs.YtklbhegeiijbjaaGreat
open Go.RowKit
theorem IC {P : Program} {cs : Array Value} {b : Bool} {n : Nat} {W : World} : ∀ (l : List Field),
  (∀ f ∈ l, f.name ≠ "_" → ∃ v, (part f.type cs f.offset).run P W = .ok v W ∧ (Instr.checkKey b n f.type v).run P W = .ok () W) →
  ((forIn l PUnit.unit fun f (_ : PUnit) => do
   if f.name ≠ "_" then Instr.checkKey b n f.type (← part f.type cs f.offset)
   pure (ForInStep.yield PUnit.unit)) : Sem PUnit).run P W = .ok PUnit.unit W
 | [], _ => by simp
 | f :: l, h => by
  have ih := IC l (fun f d => h f (fe _ d))
  simp only [List.forIn_cons, cI]
  by_cases a : f.name ≠ "_"
  ·obtain ⟨v, h1, c⟩ := h f (by simp) a
   simp only [aV a, cI, h1, bQ, c, dt]
   exact ih
  ·simp only [aU a, cI, dt, bQ]
   exact ih
theorem zo {P : Program} {kt : TypeId} {a : Array Field} {l : List Field} {cs : Array Value} {b : Bool} {n : Nat} {W : World} (d : P.underlying kt = some (.struct a)) (c : a.toList = l) (h : ∀ f ∈ l, f.name ≠ "_" → ∃ v, (part f.type cs f.offset).run P W = .ok v W ∧ (Instr.checkKey b n f.type v).run P W = .ok () W) : (Instr.checkKey b (n + 1) kt (.agg cs)).run P W = .ok () W := by
 obtain ⟨a⟩ := a
 subst c
 simp only [Instr.checkKey, cI, aX d, bQ, List.forIn_toArray]
 have := IC (P := P) (cs := cs) (b := b) (n := n) (W := W) a h
 simp only [cI] at this
 first | rw [this]; rfl | simpa using this
variable {dd : Bool}
def ot (b : Bool) : Option Unit := if b = true then some () else none
theorem F4 {b : Bool} {u : Unit} (h : ot b = some u) : b = true := by
 unfold ot at h; split at h
 ·assumption
 ·cases h
theorem qm {a c : Int} {u : Unit} (h : ot (decide (0 ≤ a) && decide (a ≤ c)) = some u) : 0 ≤ a := by have := F4 h; simp at this; exact this.1
theorem qf {a c : Int} {u : Unit} (h : ot (decide (0 ≤ a) && decide (a ≤ c)) = some u) : a ≤ c := by have := F4 h; simp at this; exact this.2
def yt (k : Nat) (v : Value) (i : Nat) (u : Value) : Prop := ∃ A n c A' a, v = .slice A n c ∧ u = .slice A' (n - i) a ∧ i ≤ n ∧ (i < n → ∃ b o, A = some ⟨b, o, none⟩ ∧ A' = some ⟨b, o + i * k, none⟩)
section
variable {P : Program} {E : Nat → Value} {W : World} {d : Option Nat} {ty : TypeId} {pos : String} {af : Array Edge} {g : Option (Nat × Bool)}
 {F : Nat → Prop} {w : World} {μ : kL} {L : List (Nat × Obj)} {α : Type} {e' : TypeId} {enc : α → List Value} {k : Nat} {v : Value} {l : List α} {R : List (Nat × Obj)}
theorem rc {t e : TypeId} {x a : Operand} {s : IntKind} {i : Int} (m : P.underlying t = some (.slice e)) (he : ∀ w, (sizeOf e).run P w = .ok k w) (n : kp E x = v) (c : kp E a = .int s i) (h : kC e' enc k v l R) (p : 0 ≤ i) (j : i ≤ l.length) :
  ∃ u, yt k v i.toNat u ∧ ∀ W, mx P E ⟨d, .slice t x (some a) none none, ty, pos, af, g⟩ W u W := by
 rcases h with ⟨rfl, rfl, rfl⟩ | ⟨b, cap, o, rfl, rfl, h1, y, z, A⟩
 ·have : i = 0 := by simp at j; omega
  subst this
  refine ⟨.slice none 0 0, ⟨none, 0, 0, none, 0, rfl, rfl, aS _, fun h => absurd h (by simp)⟩, fun W => ?_⟩
  show (do pure (.value (← Instr.sliceAt t (kp E x) (some (kp E a)) none none)) : Sem Next).run P W = _
  rw [n, c]
  simp [Instr.sliceAt, Instr.slice, Instr.sliceBounds, Instr.sliceBound, asIntOf, aX m, he W]
 ·refine ⟨.slice (some (if cap = i.toNat then ⟨b, 0, none⟩ else (Addr.add ⟨b, 0, none⟩ (i.toNat * k)))) (l.length - i.toNat) (cap - i.toNat), ⟨_, _, _, _, _, rfl, rfl, by omega, fun r => ⟨b, 0, rfl, ?_⟩⟩, fun W => ?_⟩
  ·rw [aU (by omega)]; simp [dL]
  ·show (do pure (.value (← Instr.sliceAt t (kp E x) (some (kp E a)) none none)) : Sem Next).run P W = _
   rw [n, c]
   have q : 0 ≤ i ∧ i ≤ (l.length : Int) := ⟨p, j⟩
   simp [Instr.sliceAt, Instr.slice, Instr.sliceBounds, Instr.sliceBound, asIntOf, aX m, he W, q]
   split <;> rfl
theorem uv {i j : Nat} {x0 : α} (h : (l.drop i)[j]? = some x0) : l[i + j]? = some x0 := by rwa [dK] at h
theorem BS {t e : TypeId} {x : Operand} {u : Value} {i : Nat} (j : P.underlying t = some (.slice e)) (m : kp E x = u) (hu : yt k v i u) (h : kC e' enc k v l R) : mx P E ⟨d, .call ⟨.builtin .len, #[x], #[t]⟩, ty, pos, af, g⟩ W (.int .i64 ((l.length - i : Nat) : Int)) W := by
 obtain ⟨A, n, c, A', o, h1, b, q, _⟩ := hu
 subst b
 have : n = l.length := by
  rcases h with ⟨rfl, rfl, rfl⟩ | ⟨p, cap, a, rfl, rfl, _⟩
  ·cases h1; rfl
  ·cases h1; rfl
 subst this
 exact zO j m
theorem rf {t e : TypeId} {x m : Operand} {M : IntKind} {i : Int} {x0 : α} {u : Value} {o : Nat} (J : P.underlying t = some (.slice e)) (he : ∀ w, (sizeOf e).run P w = .ok k w) (L : kp E x = u) (G : kp E m = .int M i) (h : kC e' enc k v l R) (hu : yt k v o u) (z : 0 ≤ i) (I : (l.drop o)[i.toNat]? = some x0) :
  ∃ p, AE R k p (o + i.toNat) ∧ ∀ W, mx P E ⟨d, .indexAddr t x m, ty, pos, af, g⟩ W p W := by
 have a := uv I
 have j : o + i.toNat < l.length := (bF.1 a).1
 rcases h with ⟨rfl, rfl, rfl⟩ | ⟨y, cap, q, rfl, rfl, h1, Q, T, U⟩
 ·simp at j
 obtain ⟨A, n, c, A', O, r, rfl, Y, D⟩ := hu
 cases r
 obtain ⟨b, Z, s, rfl⟩ := D (by omega)
 cases s
 refine ⟨.pointer (some ⟨y, (o + i.toNat) * k, none⟩), ⟨_, _, rfl, rfl⟩, fun W => ?_⟩
 show (do pure (.value (← Instr.indexAt t (kp E x) (kp E m))) : Sem Next).run P W = _
 rw [L, G]
 have F : 0 ≤ i ∧ i < ((l.length - o : Nat) : Int) := ⟨z, by omega⟩
 simp [Instr.indexAt, asIntOf, aX J, he W, F, dL, cL]
theorem CN (ys : List Value) (m : Nat) : (Builtin.zeroCells ys.toArray m).toList = (List.replicate m ys).flatten := by
 unfold Builtin.zeroCells
 simp only [Array.toList_map, Array.toList_range, dp]
 rcases ed ys.length with a | a
 ·have : ys = [] := ee.1 a
  subst this
  simp
 apply dQ
 intro q
 by_cases c : q < m * ys.length
 ·have h1 : q / ys.length < m := (ie a).2 c
  have b : q % ys.length < ys.length := Nat.mod_lt _ a
  have := xk (enc := fun _ : Unit => ys) (fun _ => rfl) (List.replicate m ()) (q / ys.length) () (by simp [h1]) (q % ys.length) ys[q % ys.length] (by simp [b])
  rw [Nat.div_add_mod' q ys.length] at this
  rw [iS] at this
  rw [this]
  simp [c, b]
 ·rw [dP (by simp; omega), dP (by simp; omega)]
theorem KO {K : Value → World → Prop} (z : α) (X : List (Nat × Obj)) {Y : List (Nat × Obj)} {t e : TypeId} {x : Operand} {u U : Value} {i : Nat} (p : ST dd F w W μ (X ++ (R ++ Y))) (h : kC e' enc k v l R) (hk : ∀ x, (enc x).length = k) (h1 : ∀ x, ∀ u ∈ enc x, u.oneCell' = true) (M : P.underlying t = some (.slice e)) (hz : ∀ w, (zeroValue e).run P w = .ok U w) (hu : yt k v i u) (hc : U.cells = (enc z).toArray) (hx : kp E x = u) (J : ∀ W' R', ST dd F w W' μ (X ++ (R' ++ Y)) → kC e' enc k v (nD l i z) R' → K (.tuple #[]) W') : nu P E ⟨d, .call ⟨.builtin .clear, #[x], #[t]⟩, ty, pos, af, g⟩ W K := by
 have j : ∀ (W' : World), (Builtin.clear_ #[t] ty #[u]).run P W = .ok (.tuple #[]) W' → (execOp (kp E) ⟨d, .call ⟨.builtin .clear, #[x], #[t]⟩, ty, pos, af, g⟩).run P W = .ok (.value (.tuple #[])) W' := by
  intro W' hV
  show (do let d ← resolve (kp E) ⟨.builtin .clear, #[x], #[t]⟩ ty; invoke d.target d.args : Sem Next).run P W = _
  simp [resolve, invoke, builtin, hx, hV]
 obtain ⟨A, n, c, A', c', Z, rfl, y, h8⟩ := hu
 rcases h with ⟨rfl, rfl, rfl⟩ | ⟨r, cap, a, rfl, rfl, T, q2, G, q4⟩
 ·cases Z
  refine .inl ⟨_, W, j W ?_, J W [] p (by simpa [nD] using kC.nil e' enc k)⟩
  simp only [Builtin.clear_, Nat.zero_sub]
  cases A' <;> simp [aX M]
 ·cases Z
  by_cases hi : i < l.length
  ·obtain ⟨b, o, e2, rfl⟩ := h8 hi
   cases e2
   have Q : ∀ m, (Builtin.zeroCells U.cells m).toList = (List.replicate m (enc z)).flatten := by
    intro m
    rw [hc]; exact CN _ _
   have hb := (p.box r (.cells a e' (0, 0)) (by simp)).1
   have hle : i * k + (l.length - i) * k = l.length * k := by rw [← cL]; congr 1; omega
   have hlen : l.length * k ≤ c * k := bZ _ T
   have q : ((List.replicate (l.length - i) (enc z)).flatten).length = (l.length - i) * k := by simp [hk]
   have s : ∀ v ∈ (List.replicate (l.length - i) (enc z)).flatten, v.oneCell' = true := by
    intro v D
    obtain ⟨ys, O, D⟩ := iq.1 D
    rw [(List.mem_replicate.1 O).2] at D
    exact h1 z v D
   have hs := jk (P := P) r (i * k) e' ((List.replicate (l.length - i) (enc z)).flatten) 0 a W hb (by rw [q, G]; omega) s
   rw [jK, q, hle] at hs
   refine .inl ⟨_, W.setRow r (a.toList.take (i * k) ++ (List.replicate (l.length - i) (enc z)).flatten ++ a.toList.drop (l.length * k)).toArray, j _ ?_, J _ [(r, .cells (a.toList.take (i * k) ++ (List.replicate (l.length - i) (enc z)).flatten ++ a.toList.drop (l.length * k)).toArray e' (0, 0))] (p.store _) (.inr ⟨r, c, _, by rw [uL _ _ _ y], rfl, by rw [uL _ _ _ y]; exact T, q2, ?_, ?_⟩)⟩
   ·have hn : l.length - i = (l.length - i - 1) + 1 := by omega
    simp only [Builtin.clear_]
    rw [hn]
    simp only [aX M, cI, bQ, List.getElem?_toArray, gA, hz, dZ]
    rw [← hn, Q, hs]
    simp
   ·have I : a.toList.length = c * k := by simpa using G
    rw [dp, aC, aC, cP, dT, q, I, dq (by omega)]
    omega
   ·rw [uL _ _ _ y, nD, cC, cQ, BZ hk l i y, ← q4, fJ, dq (by omega), iS]
    have I : a.toList.length = c * k := by simpa using G
    have e3 : (a.toList.take (i * k) ++ (List.replicate (l.length - i) (enc z)).flatten).length = l.length * k := by rw [aC, cP, q, I, dq (by omega)]; omega
    show List.take (l.length * k) (a.toList.take (i * k) ++ (List.replicate (l.length - i) (enc z)).flatten ++ a.toList.drop (l.length * k)) = _
    rw [eO, dx (by rw [e3]; exact aS _), e3, Nat.sub_self]
    simp
  ·have L : i = l.length := by omega
   subst L
   refine .inl ⟨_, W, j W ?_, J W _ p ?_⟩
   ·simp only [Builtin.clear_, Nat.sub_self]
    cases A' <;> simp [aX M]
   ·simp only [nD, List.take_length, Nat.sub_self, List.replicate_zero, bE]
    exact .inr ⟨r, c, a, rfl, rfl, T, q2, G, q4⟩
end
end Go.Proofs.YtklbhegeiijbjaaGreat
namespace Go.Proofs.YtklbhegeiijbjaaGreat
open Go.RowKit
variable {dd : Bool}
section
variable {P : Program} {E : Nat → Value} {W : World} {d : Option Nat} {ty : TypeId} {pos : String} {af : Array Edge} {g : Option (Nat × Bool)}
 {F : Nat → Prop} {w : World} {μ : kL} {L : List (Nat × Obj)}
theorem Ms {K : Value → World → Prop} {f : FuncId} {fv : Operand} {ax : Array Operand} {ats : Array TypeId} {args : List Value} {v : Value} (b : kp E fv = .func (.func f) #[] #[]) (ha : ax.map (kp E) ++ (#[] : Array Value) = args.toArray) (c : (callFunc f args.toArray).run P W = .ok (.value v) W) (h : K v W) : nu P E ⟨d, .call ⟨.value fv, ax, ats⟩, ty, pos, af, g⟩ W K := by
 have a : ax.map (kp E) = args.toArray := by simpa using ha
 refine .inl ⟨v, W, ?_, h⟩
 show (do let d ← resolve (kp E) ⟨.value fv, ax, ats⟩ ty; invoke d.target d.args : Sem Next).run P W = _
 simp only [resolve, b, Deferred.ofValue, cI, dt, bQ, invoke]
 rw [a]
 simpa using c
def xK (s : ByteArray) (c : Int) : Int := Lib.indexByte s.data.toList c.toNat.toUInt8
def pD (a b : ByteArray) : Int := Lib.compareBytes a.data.toList b.data.toList
def vL (l : List Int) : List UInt8 := l.map fun x => x.toNat.toUInt8
def yK (a b : List Int) : Int := Lib.compareBytes (vL a) (vL b)
theorem Hz {f : FuncId} {fn : Func} (d : P.funcs[f]? = some fn) (a : (fn.name == "runtime.NumGoroutine") = false) (b : fn.body.isNone = true) (g : Extern.findNext fn = none) (he : Extern.find fn = some Extern.BytealgIndexByte.indexByte) (s : ByteArray) (c : Int) (w : World) :
  (callFunc f [Value.string s, .int .u8 c].toArray).run P w = .ok (.value (.int .i64 (xK s c))) w := by
 rw [iK d a b g he]
 rw [Lib.run_indexByteString]
 rfl
theorem Oo {f : FuncId} {fn : Func} (g : P.funcs[f]? = some fn) (c : (fn.name == "runtime.NumGoroutine") = false) (d : fn.body.isNone = true) (h : Extern.findNext fn = none) (he : Extern.find fn = some Extern.BytealgCompare.compare) (a b : ByteArray) (w : World) :
  (callFunc f [Value.string a, .string b].toArray).run P w = .ok (.value (.int .i64 (pD a b))) w := by
 rw [iK g c d h he]
 rw [Lib.run_compareString]
 rfl
theorem Eb {v : Value} {l : List Int} (h : Sl (Pl (mc .u8)) 1 (hp W) v l) : (Extern.Bytes.bytesOf v).run P W = .ok ⟨(vL l).toArray⟩ W := by
 obtain ⟨A, c, rfl, o, p, i⟩ := h
 rcases ed l.length with a | a
 ·have : l = [] := ee.1 a
  subst this
  cases A <;> simp [Extern.Bytes.bytesOf, Extern.Bytes.loadBytes, vL] <;> rfl
 ·obtain ⟨b, off, cs, T, fr, rfl, k, m⟩ := i a
  have := Lib.run_loadBytesX (P := P) W l ⟨b, off, none⟩ .empty (fun j x n => by
   obtain ⟨ys, _, g, d⟩ := m j x n
   cases g
   rw [dL, gz W b (off + j) cs T fr k]
   have := d 0 (.int .u8 x) rfl
   simpa using this)
  simp only [Extern.Bytes.bytesOf]
  rw [this]
  congr 1
  apply js
  show (#[] : Array UInt8) ++ _ = _
  simp [Lib.bytesOf, vL]
theorem Pd {f : FuncId} {fn : Func} (j : P.funcs[f]? = some fn) (c : (fn.name == "runtime.NumGoroutine") = false) (i : fn.body.isNone = true) (k : Extern.findNext fn = none) (he : Extern.find fn = some Extern.BytealgCompare.compare) {d g : Value} {a b : List Int} (h1 : Sl (Pl (mc .u8)) 1 (hp W) d a) (h : Sl (Pl (mc .u8)) 1 (hp W) g b) :
  (callFunc f [d, g].toArray).run P W = .ok (.value (.int .i64 (yK a b))) W := by
 rw [iK j c i k he]
 have : (Extern.BytealgCompare.compare [d, g].toArray).run P W = .ok (.int .i64 (yK a b)) W := by
  change Sem.run P (do pure (goInt (Extern.BytealgCompare.cmp (← Extern.Bytes.bytesOf d) (← Extern.Bytes.bytesOf g)))) W = _
  simp only [cI, Eb h1, Eb h, dt, Result.andThen]
  rw [Lib.cmp_eq]
  rfl
 rw [this]
 rfl
theorem qv {fn : Fn} {caps : Array Operand} {cs : List Value} {v : Value} (a : caps.map (kp E) ++ (#[] : Array Value) = cs.toArray) (b : .func fn #[] cs.toArray = v) : mx P E ⟨d, .makeFunc fn #[] caps, ty, pos, af, g⟩ W v W := by
 have : caps.map (kp E) = cs.toArray := by simpa using a
 exact Mc (by rw [this]; simpa using b)
theorem lH.mono {f : FuncId} {args : List Value} {L0 : List (Nat × Obj)} {K K' : Value → List (Nat × Obj) → World → Prop} (h : lH dd P f args w L0 K) (hk : ∀ v L1 W', K v L1 W' → K' v L1 W') : lH dd P f args w L0 K' :=
 cZ h (fun _ _ ⟨v, L1, h1, a, b⟩ => ⟨v, L1, h1, a, hk _ _ _ b⟩)
end
section
variable {α : Type}
def sN (cf : α × α → Option Int) (x y : α) : Bool := match cf (x, y) with
 | some c => decide (c < 0)
 | none => false
structure ED (cf : α × α → Option Int) (l : List α) : Prop where
 is : ∀ x ∈ l, ∀ y ∈ l, ∃ c, cf (x, y) = some c
 irrefl : ∀ x ∈ l, sN cf x x = false
 trans : ∀ x ∈ l, ∀ y ∈ l, ∀ z ∈ l, sN cf x y = true → sN cf y z = true → sN cf x z = true
 total : ∀ x ∈ l, ∀ y ∈ l, sN cf x y = false → sN cf y x = false → x = y
 short : l.length < 4611686018427387904
def pR (cf : α × α → Option Int) (l : List α) : List α := l.mergeSort fun x y => !sN cf y x
open Classical in
noncomputable def xF (cf : α × α → Option Int) (l : List α) : Option (List α) := if ED cf l then some (pR cf l) else none
theorem AW {cf : α × α → Option Int} {l r : List α} (h : xF cf l = some r) : ED cf l ∧ r = pR cf l := by
 unfold xF at h
 split at h
 ·rename_i a; cases h; exact ⟨a, rfl⟩
 ·cases h
theorem Ku {cf : α × α → Option Int} {l : List α} (h : ED cf l) : xF cf l = some (pR cf l) := by
 unfold xF; rw [aV h]
def oF (l : List ByteArray) : List ByteArray := l.mergeSort fun x y => !pV y x
def Fh (l : List ByteArray) : Option (List ByteArray) := if l.length < 4611686018427387904 then some (oF l) else none
end
end Go.Proofs.YtklbhegeiijbjaaGreat
namespace Go.Proofs.YtklbhegeiijbjaaGreat
open Go.RowKit
variable {dd : Bool}
def xo {κ γ : Type} (Q : Value → γ → List (Nat × Obj) → Prop) : List (κ × Value) → List (κ × γ) → List (Nat × Obj) → Prop
 | [], [], R => R = []
 | p :: a, q :: l, R => p.1 = q.1 ∧ ∃ R1 R2, R = R1 ++ R2 ∧ Q p.2 q.2 R1 ∧ xo Q a l R2
 | _, _, _ => False
def ng {κ γ : Type} (kenc : κ → Value) (Q : Value → γ → List (Nat × Obj) → Prop) (v : Value) (c : List (κ × Value)) (l : List (κ × γ)) (R : List (Nat × Obj)) : Prop :=
 ∃ a b, R = a ++ b ∧ lX kenc (fun x => x) v c a ∧ xo Q c l b
section
variable {κ γ : Type} {Q : Value → γ → List (Nat × Obj) → Prop} {beq : κ → κ → Bool} {kenc : κ → Value}
theorem xo.keys : ∀ {a : List (κ × Value)} {l : List (κ × γ)} {R : List (Nat × Obj)}, xo Q a l R → a.map (·.1) = l.map (·.1)
 | [], [], _, _ => rfl
 | [], _ :: _, _, h => h.elim
 | _ :: _, [], _, h => h.elim
 | p :: a, q :: l, R, h => by
  obtain ⟨h1, R1, R2, _, _, b⟩ := h
  simp [h1, xo.keys b]
theorem xo.find {a : List (κ × Value)} {l : List (κ × γ)} {R : List (Nat × Obj)} (h : xo Q a l R) (k : κ) : a.findIdx? (fun p => beq k p.1) = l.findIdx? (fun p => beq k p.1) := by
 have h1 : (a.map (·.1)).findIdx? (fun x => beq k x) = (l.map (·.1)).findIdx? (fun x => beq k x) := by rw [h.keys]
 rw [gH, gH] at h1
 exact h1
theorem xo.get : ∀ {b : List (κ × Value)} {l : List (κ × γ)} {R : List (Nat × Obj)}, xo Q b l R → ∀ (i : Nat) (k : κ) (x : γ), l[i]? = some (k, x) →
  ∃ v A R1 B, b[i]? = some (k, v) ∧ R = A ++ (R1 ++ B) ∧ Q v x R1 ∧ ∀ k2 v2 x2 R2, Q v2 x2 R2 → xo Q (b.set i (k2, v2)) (l.set i (k2, x2)) (A ++ (R2 ++ B))
 | [], [], _, _, i, k, x, a => by simp at a
 | [], _ :: _, _, h, _, _, _, _ => h.elim
 | _ :: _, [], _, h, _, _, _, _ => h.elim
 | p :: b, q :: l, R, h, 0, k, x, a => by
  obtain ⟨h1, R1, R2, rfl, c, d⟩ := h
  simp at a
  subst a
  refine ⟨p.2, [], R1, R2, by simp only [gA]; exact aR some (Prod.ext h1 rfl), rfl, c, fun k2 v2 x2 R2' g => ⟨rfl, R2', R2, rfl, g, d⟩⟩
 | p :: b, q :: l, R, h, i + 1, k, x, a => by
  obtain ⟨h1, R1, R2, rfl, c, d⟩ := h
  simp at a
  obtain ⟨v, A, R1', B, g1, rfl, g3, g4⟩ := xo.get d i k x a
  exact ⟨v, R1 ++ A, R1', B, by simpa using g1, by simp, g3, fun k2 v2 x2 R2' g => ⟨h1, R1, A ++ (R2' ++ B), by simp, c, g4 k2 v2 x2 R2' g⟩⟩
theorem xo.push : ∀ {b : List (κ × Value)} {l : List (κ × γ)} {R : List (Nat × Obj)}, xo Q b l R → ∀ (k : κ) {v : Value} {x : γ} {R1 : List (Nat × Obj)}, Q v x R1 → xo Q (b ++ [(k, v)]) (l ++ [(k, x)]) (R ++ R1)
 | [], [], _, h, k, v, x, R1, a => by
  have g : _ = [] := h
  subst g
  exact ⟨rfl, R1, [], by simp, a, rfl⟩
 | [], _ :: _, _, h, _, _, _, _, _ => h.elim
 | _ :: _, [], _, h, _, _, _, _, _ => h.elim
 | p :: b, q :: l, R, h, k, v, x, R1, a => by
  obtain ⟨h1, c, d, rfl, i, j⟩ := h
  exact ⟨h1, c, d ++ R1, by simp, i, xo.push j k a⟩
theorem ng.found {r : Value} {c : List (κ × Value)} {l : List (κ × γ)} {R : List (Nat × Obj)} (hk : ∀ {x y : κ}, beq x y = true → x = y) (h : ng kenc Q r c l R) {k : κ} {x : γ} (b : lU beq l k = some x) :
  ∃ v A R1 B, lU beq c k = some v ∧ R = A ++ (R1 ++ B) ∧ Q v x R1 ∧ (∀ x2 R2, Q v x2 R2 → ng kenc Q r c (nR beq l k x2) (A ++ (R2 ++ B))) := by
 obtain ⟨o, w, rfl, s, q⟩ := h
 rw [yy] at b
 cases d : l.findIdx? (fun p => beq k p.1) with
 | none => rw [d] at b; cases b
 | some i =>
  rw [d] at b
  obtain ⟨p, hp, t⟩ := sG d
  simp only [aA, hp, dN, gI] at b
  subst b
  have n := hk t
  obtain ⟨v, A, R1, B, g1, rfl, g3, g4⟩ := q.get i p.1 p.2 hp
  have g : c.findIdx? (fun p => beq k p.1) = some i := by rw [q.find k, d]
  refine ⟨v, o ++ A, R1, B, by rw [yy, g]; simp [g1], by simp, g3, fun x2 R2 u => ⟨o, A ++ (R2 ++ B), by simp, s, ?_⟩⟩
  have a := g4 k v x2 R2 u
  have e : c.set i (k, v) = c := by
   apply dQ
   intro j
   rw [fc]
   split
   ·rename_i m
    subst m
    rw [g1, n]
    simp [(bF.1 g1).1]
   ·rfl
  rw [e] at a
  rw [nR, d]
  exact a
theorem ng.Mp {g : Value} {c : List (κ × Value)} {l : List (κ × γ)} {R : List (Nat × Obj)} (h : ng kenc Q g c l R) {k : κ} (a : lU beq l k = none) : lU beq c k = none := by
 obtain ⟨j, m, rfl, n, d⟩ := h
 rw [yy] at a ⊢
 rw [d.find k]
 cases b : l.findIdx? (fun p => beq k p.1) with
 | none => rfl
 | some i =>
  rw [b] at a
  obtain ⟨p, hp, o⟩ := sG b
  simp [hp] at a
def rL (beq : κ → κ → Bool) (a : List (κ × Value)) (k : κ) (z : Value) : Value := (lU beq a k).getD z
variable {P : Program} {W : World} {kt : TypeId} {E : Nat → Value} {d : Option Nat} {ty : TypeId} {pos : String} {af : Array Edge} {g : Option (Nat × Bool)} {F : Nat → Prop} {w : World} {μ : kL} {L : List (Nat × Obj)}
theorem pz {t e : TypeId} {m x : Operand} {c z : Value} {a : List (κ × Value)} {l : List (κ × γ)} {R : List (Nat × Obj)} {k : κ} (K : pb P kt kenc beq) (q : P.underlying t = some (.map kt e)) (s : ∀ w, (zeroValue e).run P w = .ok z w) (hm : kp E m = c) (r : kp E x = kenc k) (n : ng kenc Q c a l R) (p : ∀ b o, (b, o) ∈ R → W.heap[b]? = some o) : mx P E ⟨d, .lookup t m x false, ty, pos, af, g⟩ W (rL beq a k z) W := by
 obtain ⟨u, v, rfl, i, y⟩ := n
 have j := Jp (d := d) (ty := ty) (pos := pos) (af := af) (g := g) K q s hm r (i.at (μ := hp W) (fun b o h => p b o (bX _ h)))
 simpa [rL] using j
variable {κ2 β : Type} {kenc2 : κ2 → Value} {vf : β → Value} {beq2 : κ2 → κ2 → Bool} {kt2 : TypeId}
theorem ng.DJ {i : Value} {c : List (κ × Value)} {l : List (κ × List (κ2 × β))} {R : List (Nat × Obj)} (hk : ∀ {x y : κ}, beq x y = true → x = y) (h : ng kenc (lX kenc2 vf) i c l R) (k : κ) {μ : kL} (d : ∀ b o, (b, o) ∈ R → μ b = some o) :
  vi kenc2 vf μ (rL beq c k (.map none)) ((lU beq l k).getD []) := by
 cases a : lU beq l k with
 | none => rw [rL, h.Mp a]; exact .inl ⟨rfl, rfl⟩
 | some x =>
  obtain ⟨v, A, R1, B, g1, rfl, g3, _⟩ := h.found hk a
  rw [rL, g1]
  exact g3.at (fun b o g => d b o (by simp [g]))
theorem ng.isNil {c : Value} {b : List (κ × Value)} {l : List (κ × List (κ2 × β))} {R : List (Nat × Obj)} (hk : ∀ {x y : κ}, beq x y = true → x = y) (h : ng kenc (lX kenc2 vf) c b l R) (k : κ) :
  ∃ r, rL beq b k (.map none) = .map r ∧ r.isNone = (lU beq l k).isNone := by
 cases a : lU beq l k with
 | none => rw [rL, h.Mp a]; exact ⟨none, rfl, rfl⟩
 | some x =>
  obtain ⟨v, A, R1, B, g1, rfl, g3, _⟩ := h.found hk a
  obtain ⟨m, es, clock, rfl, _⟩ := g3
  rw [rL, g1]
  exact ⟨_, rfl, rfl⟩
def F8 {κ κ2 β : Type} (beq : κ → κ → Bool) (beq2 : κ2 → κ2 → Bool) (l : List (κ × List (κ2 × β))) (k : κ) (k2 : κ2) (x : β) : Option (List (κ × List (κ2 × β))) := (lU beq l k).map fun a => nR beq l k (nR beq2 a k2 x)
def Gv {κ γ : Type} (beq : κ → κ → Bool) (l : List (κ × γ)) (k : κ) (x : γ) : Option (List (κ × γ)) := if (lU beq l k).isNone then some (nR beq l k x) else none
theorem Od {o : Value → World → Prop} (X : List (Nat × Obj)) {Y R : List (Nat × Obj)} {t e : TypeId} {m x y : Operand} {q : Value} {n : List (κ × Value)} {l p : List (κ × List (κ2 × β))} {k : κ} {k2 : κ2} {v : β} (hk : ∀ {x y : κ}, beq x y = true → x = y) (K : pb P kt2 kenc2 beq2) (z : P.underlying t = some (.map kt2 e)) (c : ST dd F w W μ (X ++ (R ++ Y))) (h : ng kenc (lX kenc2 vf) q n l R) (hm : kp E m = rL beq n k (.map none)) (D : kp E x = kenc2 k2) (G : kp E y = vf v) (b : F8 beq beq2 l k k2 v = some p) (s : ∀ W' R', ST dd F w W' μ (X ++ (R' ++ Y)) → ng kenc (lX kenc2 vf) q n p R' → o undef W') : nu P E ⟨d, .mapUpdate t m x y, ty, pos, af, g⟩ W o := by
 unfold F8 at b
 cases i : lU beq l k with
 | none => rw [i] at b; cases b
 | some I =>
  rw [i] at b
  cases b
  obtain ⟨u, A, R1, B, g1, rfl, g3, g4⟩ := h.found hk i
  have j : kp E m = u := by rw [hm, rL, g1]; rfl
  have a : ST dd F w W μ ((X ++ A) ++ (R1 ++ (B ++ Y))) := by simpa using c
  refine zY (X ++ A) K z a g3 j D G (fun W' R' h1 r => s W' (A ++ (R' ++ B)) ?_ (g4 _ _ r))
  simpa using h1
theorem Nd {v : Value → World → Prop} (X : List (Nat × Obj)) {Y R R2 : List (Nat × Obj)} {t e : TypeId} {m x y : Operand} {s : Value} {r : List (κ × Value)} {l G : List (κ × γ)} {k : κ} {u : Value} {z : γ} (K : pb P kt kenc beq) (Z : P.underlying t = some (.map kt e)) (o : ST dd F w W μ (X ++ (R ++ (R2 ++ Y)))) (h : ng kenc Q s r l R) (hm : kp E m = s) (hx : kp E x = kenc k) (hy : kp E y = u) (U : Q u z R2) (b : Gv beq l k z = some G) (O : ∀ W' R', ST dd F w W' μ (X ++ (R' ++ Y)) → ng kenc Q s (nR beq r k u) G R' → v undef W') : nu P E ⟨d, .mapUpdate t m x y, ty, pos, af, g⟩ W v := by
 unfold Gv at b
 cases j : lU beq l k with
 | some l2 => rw [j] at b; cases b
 | none =>
  rw [j] at b
  simp only [Option.isNone_none, aZ, gI] at b
  subst b
  have T := h.Mp j
  obtain ⟨J, n, rfl, L, M⟩ := h
  have c : ST dd F w W μ (X ++ (J ++ (n ++ (R2 ++ Y)))) := by simpa using o
  refine zY X K Z c L hm hx hy (fun W' R' g1 g2 => O W' (R' ++ (n ++ R2)) (by simpa using g1) ⟨R', n ++ R2, rfl, g2, ?_⟩)
  have A : ∀ {I : Type} (q : List (κ × I)) (y : I), lU beq q k = none → nR beq q k y = q ++ [(k, y)] := fun q y a => by
   rw [yy] at a
   rw [nR]
   cases D : q.findIdx? (fun p => beq k p.1) with
   | none => rfl
   | some i =>
    obtain ⟨p, hp, _⟩ := sG D
    rw [D] at a
    simp [hp] at a
  rw [A r u T, A l z j]
  exact M.push k U
end
end Go.Proofs.YtklbhegeiijbjaaGreat
namespace Go.Proofs.YtklbhegeiijbjaaGreat
open Go.RowKit
variable {dd : Bool}
section
variable {κ γ : Type} {Q : Value → γ → List (Nat × Obj) → Prop} {beq : κ → κ → Bool} {kenc : κ → Value}
theorem rA {a : Type} {l : List (κ × a)} {k : κ} {i : Nat} (h : l.findIdx? (fun p => beq k p.1) = some i) (x : a) : nR beq l k x = l.set i (k, x) := by rw [nR, h]
theorem vH {a : Type} {l : List (κ × a)} {k : κ} (h : l.findIdx? (fun p => beq k p.1) = none) (x : a) : nR beq l k x = l ++ [(k, x)] := by rw [nR, h]
theorem Ew {a : Type} {l : List (κ × a)} {k : κ} (h : l.findIdx? (fun p => beq k p.1) = none) : lU beq l k = none := by rw [yy, h]; rfl
theorem DI {a : Type} {l : List (κ × a)} {k : κ} {i : Nat} {p : κ × a} (h : l.findIdx? (fun p => beq k p.1) = some i) (hp : l[i]? = some p) : lU beq l k = some p.2 := by rw [yy, h]; simp [hp]
def MJ (beq : κ → κ → Bool) (kenc : κ → Value) (Q : Value → γ → List (Nat × Obj) → Prop) (c : Value) (b : List (κ × Value)) (l : List (κ × γ)) (k : κ) (R : List (Nat × Obj)) : Prop :=
 ∃ a A B, R = a ++ (A ++ B) ∧ lX kenc (fun x => x) c b a ∧ ∀ v x R1, Q v x R1 → xo Q (nR beq b k v) (nR beq l k x) (A ++ (R1 ++ B))
theorem ng.open (hk : ∀ {x y : κ}, beq x y = true → x = y) {q z : Value} {x0 : γ} (j : Q z x0 []) {m : List (κ × Value)} {l : List (κ × γ)} {R : List (Nat × Obj)} (h : ng kenc Q q m l R) (k : κ) :
  ∃ R' R1, R.Perm (R' ++ R1) ∧ Q (rL beq m k z) ((lU beq l k).getD x0) R1 ∧ MJ beq kenc Q q m l k R' := by
 obtain ⟨c, n, rfl, o, d⟩ := h
 have b := d.find (beq := beq) k
 cases a : l.findIdx? (fun p => beq k p.1) with
 | none =>
  rw [a] at b
  refine ⟨c ++ n, [], by simp, ?_, c, n, [], by simp, o, fun v x R1 g => ?_⟩
  ·rw [rL, Ew a, Ew b]; exact j
  ·rw [vH a, vH b]; simpa using d.push k g
 | some i =>
  rw [a] at b
  obtain ⟨p, hp, r⟩ := sG a
  have s := hk r
  obtain ⟨v, A, R1, B, g1, rfl, g3, g4⟩ := d.get i p.1 p.2 hp
  refine ⟨c ++ (A ++ B), R1, ?_, ?_, c, A, B, rfl, o, fun v2 x2 R2 g => ?_⟩
  ·rw [aK, aK]
   refine cA _ (cA _ eW)
  ·rw [rL, DI a hp, DI b g1]; exact g3
  ·rw [rA a, rA b]; exact g4 k v2 x2 R2 g
variable {P : Program} {W : World} {kt : TypeId} {E : Nat → Value} {d : Option Nat} {ty : TypeId} {pos : String} {af : Array Edge} {g : Option (Nat × Bool)} {F : Nat → Prop} {w : World} {μ : kL} {L : List (Nat × Obj)}
theorem Sc {i : Value → World → Prop} (X : List (Nat × Obj)) {Y R R1 : List (Nat × Obj)} {t e : TypeId} {m x y : Operand} {c : Value} {j : List (κ × Value)} {l : List (κ × γ)} {k : κ} {u : Value} {z : γ} (K : pb P kt kenc beq) (s : P.underlying t = some (.map kt e)) (b : ST dd F w W μ (X ++ (R ++ (R1 ++ Y)))) (h : MJ beq kenc Q c j l k R) (hm : kp E m = c) (v : kp E x = kenc k) (D : kp E y = u) (r : Q u z R1) (q : ∀ W' R', ST dd F w W' μ (X ++ (R' ++ Y)) → ng kenc Q c (nR beq j k u) (nR beq l k z) R' → i undef W') : nu P E ⟨d, .mapUpdate t m x y, ty, pos, af, g⟩ W i := by
 obtain ⟨n, A, B, rfl, o, p⟩ := h
 have a : ST dd F w W μ (X ++ (n ++ (A ++ (B ++ (R1 ++ Y))))) := by simpa using b
 refine zY X K s a o hm v D (fun W' R' g1 g2 => q W' (R' ++ (A ++ (R1 ++ B))) ?_ ⟨R', A ++ (R1 ++ B), rfl, g2, p u z R1 r⟩)
 refine g1.perm ?_
 simp only [aK]
 refine cA _ (cA _ (cA _ ?_))
 rw [← aK, ← aK]
 exact gJ _ eW
def I4 (beq : κ → κ → Bool) (kenc : κ → Value) (Q : Value → γ → List (Nat × Obj) → Prop) (b : Value) (l : List (κ × γ)) (k : κ) (st : Nat) (R : List (Nat × Obj)) : Prop :=
 ∃ m es clock a A B i e, b = .map (some m) ∧ R = (m, .map es clock) :: (A ++ B) ∧ vh kenc (fun x => x) a es clock ∧ es[i]? = some e ∧ e.born = st ∧ a.findIdx? (fun p => beq k p.1) = some i ∧
  ∀ v x R1, Q v x R1 → xo Q (nR beq a k v) (nR beq l k x) (A ++ (R1 ++ B))
theorem H8 {g : Type} (hk : ∀ x : κ, beq x x = true) (d : List (κ × g)) (k : κ) (a b : g) : nR beq (nR beq d k a) k b = nR beq d k b := by
 cases c : d.findIdx? (fun p => beq k p.1) with
 | none =>
  have h1 : (d ++ [(k, a)]).findIdx? (fun p => beq k p.1) = some d.length := by
   rw [iE, c]
   simp [eT, hk]
  rw [vH c, vH c, rA h1]
  simp
 | some i =>
  obtain ⟨p, hp, n⟩ := sG c
  have h1 : (d.set i (k, a)).findIdx? (fun p => beq k p.1) = some i := by
   rw [ei] at c ⊢
   obtain ⟨h1, m, h⟩ := c
   refine ⟨by simpa using h1, by simp [hk], fun j l => ?_⟩
   rw [List.getElem_set_ne (by omega)]
   exact h j l
  rw [rA c, rA c, rA h1]
  simp
end
end Go.Proofs.YtklbhegeiijbjaaGreat
namespace Go.Proofs.YtklbhegeiijbjaaGreat
open Go.RowKit
variable {dd : Bool}
section
variable {κ γ : Type} {Q : Value → γ → List (Nat × Obj) → Prop} {beq : κ → κ → Bool} {kenc : κ → Value}
variable {P : Program} {W : World} {kt : TypeId} {E : Nat → Value} {d : Option Nat} {ty : TypeId} {pos : String} {af : Array Edge} {g : Option (Nat × Bool)} {F : Nat → Prop} {w : World} {μ : kL} {L : List (Nat × Obj)}
theorem Ez {es : Array MapEntry} {i : Nat} {f b : MapEntry → MapEntry} (h : ∀ e, es[i]? = some e → f e = b e) : es.modify i f = es.modify i b := by
 apply Array.ext_getElem?
 intro j
 rw [dW, dW]
 split
 ·rename_i a
  subst a
  cases he : es[i]? with
  | none => rfl
  | some e => simp [h e he]
 ·rfl
theorem vh.val {b : List (κ × Value)} {es : Array MapEntry} {clock : Nat} (h : vh kenc (fun x => x) b es clock) {i : Nat} {e : MapEntry} (he : es[i]? = some e) : ∃ p, b[i]? = some p ∧ e.key = kenc p.1 ∧ e.val = p.2 := by
 have a := aR (fun q => q[i]?) h.Fq
 simp only [dH, du, he, dN] at a
 cases hp : b[i]? with
 | none => rw [hp] at a; cases a
 | some p =>
  rw [hp] at a
  simp only [dN, gI, Prod.mk.injEq] at a
  exact ⟨p, rfl, a.1, a.2⟩
theorem My {Kk : Value → World → Prop} (X : List (Nat × Obj)) {Y R : List (Nat × Obj)} {t e : TypeId} {m x : Operand} {mv z : Value} {x0 : γ} {lv : List (κ × Value)} {l : List (κ × γ)} {k : κ} (hk : ∀ {x y : κ}, beq x y = true ↔ x = y) (K : pb P kt kenc beq) (ht : P.underlying t = some (.map kt e)) (hz : ∀ w, (zeroValue e).run P w = .ok z w) (aa : Q z x0 []) (M : ST dd F w W μ (X ++ (R ++ Y))) (h : ng kenc Q mv lv l R) (hm : kp E m = mv) (hx : kp E x = kenc k) (hK : ∀ W' v st R' R1, ST dd F w W' μ (X ++ (R' ++ (R1 ++ Y))) → Q v ((lU beq l k).getD x0) R1 → I4 beq kenc Q mv l k st R' → Kk (.tuple #[v, .int .i64 (st : Nat)]) W') : nu P E ⟨d, .mapEntry t m x, ty, pos, af, g⟩ W Kk := by
 obtain ⟨Rm, Rv, rfl, ⟨n, es, clock, rfl, rfl, o⟩, L⟩ := h
 have hb : W.heap[n]? = some (.map es clock) := (M.box n (.map es clock) (by simp)).1
 have h5 : (getObj n : Sem Obj).run P W = .ok (.map es clock) W := by simp [getObj, Sem.run, hb]
 have I := K.find k _ _ o.keys W
 rw [o.get k] at I
 have u := L.find (beq := beq) k
 have s : ∀ W' v, (Instr.mapEntry t (.map (some n)) (kenc k)).run P W = .ok v W' → (execOp (kp E) ⟨d, .mapEntry t m x, ty, pos, af, g⟩).run P W = .ok (.value v) W' := by
  intro W' v hr
  show (do pure (.value (← Instr.mapEntry t (kp E m) (kp E x))) : Sem Next).run P W = _
  rw [hm, hx]
  simp [hr]
 have r : ST dd F w W μ (X ++ (n, .map es clock) :: (Rv ++ Y)) := by simpa using M
 cases b : lv.findIdx? (fun p => beq k p.1) with
 | none =>
  rw [b] at I u
  have a := o.put (beq := beq) k z
  rw [b] at a
  refine .inl ⟨_, ChangeMaps.setBlock W n (.map (es.push { key := kenc k, val := z, born := clock }) (clock + 1)), s _ (.tuple #[z, .int .i64 (clock : Nat)]) ?_, hK _ z clock ((n, .map (es.push { key := kenc k, val := z, born := clock }) (clock + 1)) :: (Rv ++ [])) [] ?_ ?_ ?_⟩
  ·simp [Instr.mapEntry, aX ht, h5, K.check, I, yU hb, hz _, goInt]
  ·have := r.setBlock (.map (es.push { key := kenc k, val := z, born := clock }) (clock + 1))
   simpa using this
  ·rw [Ew u.symm]; exact aa
  ·refine ⟨n, _, _, lv ++ [(k, z)], Rv, [], es.size, { key := kenc k, val := z, born := clock }, rfl, rfl, a, by simp, rfl, ?_, fun v x R1 hq => ?_⟩
   ·rw [iE, b]
    have a7 := o.length
    simp [eT, hk, a7]
   ·rw [← vH b, H8 (fun x => hk.2 rfl), vH b, vH u.symm]
    simpa using L.push k hq
 | some i =>
  rw [b] at I u
  obtain ⟨p, hp, a8⟩ := sG b
  obtain ⟨q, a6, O⟩ := sG u.symm
  have ad := hk.1 O
  obtain ⟨v, A, R1, B, g1, rfl, g3, g4⟩ := L.get i q.1 q.2 a6
  have a1 : p.2 = v := by rw [g1] at hp; cases hp; rfl
  have a7 := o.length
  have ab : i < lv.length := (bF.1 hp).1
  obtain ⟨J, c⟩ : ∃ J, es[i]? = some J := ⟨es[i], fa (by omega)⟩
  obtain ⟨p', Z, D, G⟩ := o.val c
  rw [hp] at Z
  cases Z
  simp only [aA, hp, dN] at I
  have a := o.put (beq := beq) k v
  rw [b] at a
  have T : ((es[i]?).map (·.key)).getD (kenc k) = kenc k := by
   rw [c]
   simp only [dN, ir, D]
   exact K.eq k p.1 a8
  have U : es.modify i (fun e => { e with key := kenc k }) = es.modify i (fun e => { e with key := kenc k, val := v }) := Ez fun e he => by
   rw [c] at he; cases he
   rw [← a1, ← G]
  refine .inl ⟨_, ChangeMaps.setBlock W n (.map (es.modify i fun e => { e with key := kenc k, val := v }) clock), s _ (.tuple #[v, .int .i64 (J.born : Nat)]) ?_, hK _ v J.born ((n, .map (es.modify i fun e => { e with key := kenc k, val := v }) clock) :: (A ++ B)) R1 ?_ ?_ ?_⟩
  ·simp only [Instr.mapEntry, cI, aX ht, h5, K.check, I, bQ, T, Instr.keyThatStays, K.bits, aZ, dt]
   rw [yU hb, U]
   simp [c, goInt, a1]
  ·have := r.setBlock (.map (es.modify i fun e => { e with key := kenc k, val := v }) clock)
   refine this.perm ?_
   simp only [aK, bW]
   refine cA _ (List.Perm.cons _ (cA _ ?_))
   rw [← aK, ← aK]
   exact gJ _ eW
  ·rw [DI u.symm a6]; exact g3
  ·refine ⟨n, _, _, lv.set i (k, v), A, B, i, { J with key := kenc k, val := v }, rfl, rfl, a, ?_, rfl, ?_, fun v2 x2 R2 hq => ?_⟩
   ·rw [dW, aV rfl, c]; rfl
   ·rw [ei] at b ⊢
    obtain ⟨h1, o, L⟩ := b
    refine ⟨by simpa using h1, by simp [hk], fun j hj => ?_⟩
    rw [List.getElem_set_ne (by omega)]
    exact L j hj
   ·rw [← rA b, H8 (fun x => hk.2 rfl), rA b, rA u.symm]
    exact g4 k v2 x2 R2 hq
theorem NL {es : Array MapEntry} (h : es.toList.Pairwise (fun a b => a.born < b.born)) {i : Nat} {e : MapEntry} (he : es[i]? = some e) : es.findIdx? (fun a => (a.born : Int) == (e.born : Int)) = some i := by
 rw [Array.findIdx?_eq_some_iff_getElem]
 obtain ⟨d, c⟩ := cN.1 he
 refine ⟨d, by rw [c]; simp, fun j g => ?_⟩
 have := List.pairwise_iff_getElem.1 h j i (by simpa using Nat.lt_trans g d) (by simpa using d) g
 simp only [Array.getElem_toList] at this
 rw [c] at this
 simp
 omega
theorem Kt {U : Value → World → Prop} (X : List (Nat × Obj)) {Y R R1 : List (Nat × Obj)} {t e : TypeId} {m s y : Operand} {T u : Value} {z : γ} {l : List (κ × γ)} {k : κ} {st : Nat} (hk : ∀ {x y : κ}, beq x y = true ↔ x = y) (K : pb P kt kenc beq) (o : ST dd F w W μ (X ++ (R ++ (R1 ++ Y)))) (h : I4 beq kenc Q T l k st R) (hm : kp E m = T) (hs : kp E s = .int .i64 (st : Nat)) (hy : kp E y = u) (hq : Q u z R1) (hK : ∀ W' O R', ST dd F w W' μ (X ++ (R' ++ Y)) → ng kenc Q T O (nR beq l k z) R' → U undef W') : nu P E ⟨d, .entryStore t m s y, ty, pos, af, g⟩ W U := by
 obtain ⟨b, es, clock, lv, A, B, i, en, rfl, rfl, I, j, c, L, h3⟩ := h
 have Z : W.heap[b]? = some (.map es clock) := (o.box b (.map es clock) (by simp)).1
 have h5 : (getObj b : Sem Obj).run P W = .ok (.map es clock) W := by simp [getObj, Sem.run, Z]
 obtain ⟨p, hp, J⟩ := sG L
 obtain ⟨p', G, n, M⟩ := I.val j
 rw [hp] at G
 cases G
 have a := I.put (beq := beq) k u
 rw [L] at a
 have D : es.modify i (fun e => { e with val := u }) = es.modify i (fun e => { e with key := kenc k, val := u }) := Ez fun e he => by
  rw [j] at he; cases he
  have r : en.key = kenc k := by rw [n]; exact K.eq k p.1 J
  rw [← r]
 have v := NL I.born j
 rw [c] at v
 have q : ST dd F w W μ (X ++ (b, .map es clock) :: (A ++ (B ++ (R1 ++ Y)))) := by simpa using o
 refine .inr (.inl ⟨ChangeMaps.setBlock W b (.map (es.modify i fun e => { e with key := kenc k, val := u }) clock), ?_, hK _ (nR beq lv k u) ((b, .map (es.modify i fun e => { e with key := kenc k, val := u }) clock) :: (A ++ (R1 ++ B))) ?_ ⟨[(b, .map (es.modify i fun e => { e with key := kenc k, val := u }) clock)], A ++ (R1 ++ B), rfl, ⟨b, _, _, rfl, rfl, ?_⟩, h3 u z R1 hq⟩⟩)
 ·show (do Instr.entryStore t (kp E m) (kp E s) (kp E y); pure .skip : Sem Next).run P W = _
  rw [hm, hs, hy]
  simp only [Instr.entryStore, cI, h5, bQ, asInt, asIntOf, dt, v]
  rw [yU Z, D]
  rfl
 ·have := q.setBlock (.map (es.modify i fun e => { e with key := kenc k, val := u }) clock)
  refine this.perm ?_
  simp only [aK, bW]
  refine cA _ (List.Perm.cons _ (cA _ ?_))
  rw [← aK, ← aK]
  exact gJ _ eW
 ·rw [rA L]; exact a
end
end Go.Proofs.YtklbhegeiijbjaaGreat
namespace Go.Proofs.YtklbhegeiijbjaaGreat
open Go.RowKit
variable {dd : Bool}
section
variable {κ γ : Type} {Q : Value → γ → List (Nat × Obj) → Prop} {beq : κ → κ → Bool} {kenc : κ → Value}
def my (kenc : κ → Value) (Q : Value → γ → List (Nat × Obj) → Prop) (v : Value) (l : List (κ × γ)) (R : List (Nat × Obj)) : Prop := ∃ a, ng kenc Q v a l R
def rT (kenc : κ → Value) (Q : Value → γ → List (Nat × Obj) → Prop) (μ : kL) (v : Value) (l : List (κ × γ)) : Prop := ∃ a R, ng kenc Q v a l R ∧ ∀ b o, (b, o) ∈ R → μ b = some o
theorem my.at {v : Value} {l : List (κ × γ)} {R : List (Nat × Obj)} {μ : kL} (h : my kenc Q v l R) (a : ∀ b o, (b, o) ∈ R → μ b = some o) : rT kenc Q μ v l := let ⟨c, h⟩ := h; ⟨c, R, h, a⟩
theorem rT.mono {v : Value} {l : List (κ × γ)} {μ μ' : kL} (h : rT kenc Q μ v l) (d : kH μ μ') : rT kenc Q μ' v l := let ⟨g, R, h, a⟩ := h; ⟨g, R, h, fun b o c => d _ _ (a b o c)⟩
theorem ng.form {v : Value} {a : List (κ × Value)} {l : List (κ × γ)} {R : List (Nat × Obj)} (h : ng kenc Q v a l R) : ∃ m, v = .map (some m) := let ⟨_, _, _, h, _⟩ := h; h.form
theorem ng.e {v : Value} {a : List (κ × Value)} {l : List (κ × γ)} {R : List (Nat × Obj)} (h : ng kenc Q v a l R) : my kenc Q v l R := ⟨a, h⟩
theorem my.form {v : Value} {l : List (κ × γ)} {R : List (Nat × Obj)} (h : my kenc Q v l R) : ∃ m, v = .map (some m) := let ⟨_, h⟩ := h; h.form
theorem my.new {v : Value} {R : List (Nat × Obj)} (h : lX (β := Value) kenc (fun x => x) v [] R) : my kenc Q v [] R := ⟨[], R, [], (bE R).symm, h, rfl⟩
theorem ng.rowAt {α : Type} {e : TypeId} {enc : α → List Value} {n : Nat} {g : Value} {c : List (κ × Value)} {l : List (κ × List α)} {R : List (Nat × Obj)} (hk : ∀ {x y : κ}, beq x y = true → x = y) (h : ng kenc (kC e enc n) g c l R) (k : κ) :
  ∃ R1, kC e enc n (rL beq c k (.slice none 0 0)) ((lU beq l k).getD []) R1 ∧ ∀ b o, (b, o) ∈ R1 → (b, o) ∈ R := by
 cases a : lU beq l k with
 | none => refine ⟨[], ?_, fun b o h => by cases h⟩; rw [rL, h.Mp a]; exact .inl ⟨rfl, rfl, rfl⟩
 | some x =>
  obtain ⟨v, A, R1, B, g1, rfl, g3, _⟩ := h.found hk a
  refine ⟨R1, ?_, fun b o d => by simp [d]⟩
  rw [rL, g1]; exact g3
theorem kC.B5 {α : Type} {e : TypeId} {enc : α → List Value} {k : Nat} {v : Value} {l : List α} {R : List (Nat × Obj)} (h : kC e enc k v l R) (hk : ∀ x, (enc x).length = k) : Sl (Pl enc) k (zJ R) v l := by
 refine h.sl hk (fun b o a => ?_)
 rcases h with ⟨rfl, rfl, rfl⟩ | ⟨g, cap, c, rfl, rfl, _⟩
 ·cases a
 ·simp at a; obtain ⟨rfl, rfl⟩ := a; simp [zJ]
end
theorem og.hp (W : World) : og (hp W) [] W := ⟨fun _ _ h => h, fun _ _ h => by cases h⟩
section
variable {P : Program} {W : World} {E : Nat → Value} {d : Option Nat} {ty : TypeId} {pos : String} {af : Array Edge} {g : Option (Nat × Bool)} {F : Nat → Prop} {w : World} {μ : kL} {L : List (Nat × Obj)}
theorem Hu {t k e : TypeId} (dd : Nat) (b : P.underlying t = some (.map k e)) (a : Option Nat) (W : World) : (Op.equalIn (dd + 1) t (.map a) (.map none)).run P W = .ok a.isNone W := by
 cases a <;> simp [Op.equalIn, aX b]
theorem MN {a m k e : TypeId} {x y : Operand} {r : Option Nat} {b : Bool} (i : P.underlying a = some (.map k e)) (j : kp E x = .map r) (l : kp E y = .map none) (h : r.isNone = b) :
  mx P E ⟨d, .binOp .eql a x y m, ty, pos, af, g⟩ W (.bool b) W := by
 subst h
 show (do let r ← (do eqGuard .eql a x y (kp E x) (kp E y); binOp .eql a (kp E x) (kp E y)); pure (.value r) : Sem Next).run P W = _
 rw [j, l]
 have c := Hu 9999 i r W
 simp [eqGuard, binOp, Op.equal, show Op.maxDepth = 9999 + 1 from rfl, c]
theorem KH {κ κ2 β : Type} {kenc : κ → Value} {kenc2 : κ2 → Value} {vf : β → Value} {beq : κ → κ → Bool} {b o kt e : TypeId} {x y : Operand} {n : Value} {a : List (κ × Value)} {l : List (κ × List (κ2 × β))} {R : List (Nat × Obj)} {k : κ} (hk : ∀ {x y : κ}, beq x y = true → x = y) (i : P.underlying b = some (.map kt e)) (h : ng kenc (lX kenc2 vf) n a l R) (j : kp E x = rL beq a k (.map none)) (m : kp E y = .map none) :
  mx P E ⟨d, .binOp .eql b x y o, ty, pos, af, g⟩ W (.bool (lU beq l k).isNone) W := by
 obtain ⟨r, h1, c⟩ := h.isNil hk k
 exact MN i (j.trans h1) m c
theorem Du {κ γ : Type} {b : Value → World → Prop} {t : TypeId} (kenc : κ → Value) (Q : Value → γ → List (Nat × Obj) → Prop) (a : ST dd F w W μ L) (h : ∀ W' v R, ST dd F w W' μ (R ++ L) → my kenc Q v [] R → b v W') : nu P E ⟨d, .makeMap t none, ty, pos, af, g⟩ W b :=
 BP kenc (fun x : Value => x) a (fun W' v R h1 c => h W' v R h1 (my.new c))
end
def pT {α : Type} (e : TypeId) (enc : α → List Value) (k : Nat) (v : Value) (l : List α) (R : List (Nat × Obj)) : Prop :=
 (v = .slice none 0 0 ∧ l = [] ∧ R = []) ∨
 ∃ g off cap a, v = .slice (some ⟨g, off, none⟩) l.length cap ∧ R = [(g, .cells a e (0, 0))] ∧ l.length ≤ cap ∧ cap ≤ maxLen ∧ off + cap * k ≤ a.size ∧ (a.toList.drop off).take (l.length * k) = (l.map enc).flatten
section
variable {α : Type} {e : TypeId} {enc : α → List Value} {k : Nat} {v : Value} {l : List α} {R : List (Nat × Obj)}
theorem pT.nil (e : TypeId) (enc : α → List Value) (k : Nat) : pT e enc k (.slice none 0 0) [] [] := .inl ⟨rfl, rfl, rfl⟩
theorem kC.Tj (h : kC e enc k v l R) : pT e enc k v l R := by
 rcases h with h | ⟨g, cap, a, h1, b, c, d, j, i⟩
 ·exact .inl h
 ·exact .inr ⟨g, 0, cap, a, h1, b, c, d, by omega, by simpa using i⟩
theorem pT.len (h : pT e enc k v l R) : l.length ≤ 9223372036854775807 := by
 rcases h with ⟨rfl, rfl, rfl⟩ | ⟨g, off, cap, a, rfl, rfl, h1, b, _⟩
 ·simp
 ·unfold maxLen at b; omega
theorem pT.form (h : pT e enc k v l R) : ∃ A c, v = .slice A l.length c := by
 rcases h with ⟨rfl, rfl, rfl⟩ | ⟨g, off, cap, a, rfl, rfl, _⟩
 ·exact ⟨_, _, rfl⟩
 ·exact ⟨_, _, rfl⟩
theorem pT.B5 (h : pT e enc k v l R) (hk : ∀ x, (enc x).length = k) : Sl (Pl enc) k (zJ R) v l := by
 rcases h with ⟨rfl, rfl, rfl⟩ | ⟨g, off, cap, a, rfl, rfl, h1, c, o, d⟩
 ·exact Sl.nil _ _ _
 ·refine ⟨_, cap, rfl, h1, c, fun _ => ⟨g, off, a, e, (0, 0), rfl, by simp [zJ], fun i x m => ⟨enc x, hk x, rfl, fun j y n => ?_⟩⟩⟩
  have := xk hk l i x m j y n
  rw [← d] at this
  have b : i * k + j < l.length * k := by
   have := (bF.1 this).1
   simp at this; omega
  rw [dO b, dK] at this
  simpa [eu] using this
variable {P : Program} {W : World} {E : Nat → Value} {d : Option Nat} {ty : TypeId} {pos : String} {af : Array Edge} {g : Option (Nat × Bool)} {F : Nat → Prop} {w : World} {μ : kL} {L : List (Nat × Obj)}
theorem Ps {x : Operand} {t a : TypeId} (b : P.underlying t = some (.slice a)) (i : kp E x = v) (h : pT e enc k v l R) : mx P E ⟨d, .call ⟨.builtin .len, #[x], #[t]⟩, ty, pos, af, g⟩ W (.int .i64 l.length) W := by
 obtain ⟨A, c, rfl⟩ := h.form
 exact zO b i
theorem Mj {t o : TypeId} {x m : Operand} {I : IntKind} {i : Int} (s : P.underlying t = some (.slice o)) (he : ∀ w, (sizeOf o).run P w = .ok k w) (y : kp E x = v) (q : kp E m = .int I i) (hk : ∀ x, (enc x).length = k) (h : pT e enc k v l R) (z : 0 ≤ i) (r : i ≤ l.length) :
  ∃ u, pT e enc k u (l.drop i.toNat) R ∧ ∀ W, mx P E ⟨d, .slice t x (some m) none none, ty, pos, af, g⟩ W u W := by
 rcases h with ⟨rfl, rfl, rfl⟩ | ⟨j, off, cap, b, rfl, rfl, h1, J, L, A⟩
 ·have : i = 0 := by simp at r; omega
  subst this
  refine ⟨.slice none 0 0, by simpa using pT.nil e enc k, fun W => ?_⟩
  show (do pure (.value (← Instr.sliceAt t (kp E x) (some (kp E m)) none none)) : Sem Next).run P W = _
  rw [y, q]
  simp [Instr.sliceAt, Instr.slice, Instr.sliceBounds, Instr.sliceBound, asIntOf, aX s, he W]
 ·refine ⟨.slice (some (if cap = i.toNat then ⟨j, off, none⟩ else (Addr.add ⟨j, off, none⟩ (i.toNat * k)))) (l.length - i.toNat) (cap - i.toNat), .inr ?_, fun W => ?_⟩
  ·have a : (l.drop i.toNat).length = l.length - i.toNat := by simp
   have c : (l.map enc).flatten.drop (i.toNat * k) = ((l.drop i.toNat).map enc).flatten := by
    have D : l = l.take i.toNat ++ l.drop i.toNat := (eX _ _).symm
    have F : ((l.take i.toNat).map enc).flatten.length = i.toNat * k := by rw [pj hk, cP, dq (by omega)]
    conv => lhs; rw [D, cC, cQ]
    rw [← F, List.drop_left]
   by_cases p : cap = i.toNat
   ·rw [aV p]
    have n : l.drop i.toNat = [] := List.drop_eq_nil_of_le (by omega)
    refine ⟨j, off, cap - i.toNat, b, by rw [n]; simp; omega, rfl, by rw [n]; simp, by omega, by have : (cap - i.toNat) * k ≤ cap * k := bZ _ (by omega); omega, by rw [n]; simp⟩
   ·rw [aU p]
    refine ⟨j, off + i.toNat * k, cap - i.toNat, b, by rw [a, dL], rfl, by rw [a]; omega, by omega, ?_, ?_⟩
    ·have : i.toNat * k + (cap - i.toNat) * k = cap * k := by rw [← cL]; congr 1; omega
     omega
    ·rw [a, ← c, ← A, gG, List.drop_drop, Nat.sub_mul]
  ·show (do pure (.value (← Instr.sliceAt t (kp E x) (some (kp E m)) none none)) : Sem Next).run P W = _
   rw [y, q]
   have G : 0 ≤ i ∧ i ≤ (l.length : Int) := ⟨z, r⟩
   simp [Instr.sliceAt, Instr.slice, Instr.sliceBounds, Instr.sliceBound, asIntOf, aX s, he W, G]
   split <;> rfl
theorem KK {K : Value → World → Prop} {t : TypeId} {a1 : Nat} {z vs : Value} {m r : List α} (X : List (Nat × Obj)) {Y : List (Nat × Obj)} {x y : Operand} {i : TypeInfo} (a6 : ST dd F w W μ (X ++ (R ++ Y))) (hk : ∀ x, (enc x).length = k) (aj : 0 < k) (h1 : ∀ x, ∀ u ∈ enc x, u.oneCell' = true) (ht : P.underlying t = some (.slice e)) (hi : P.info? e = some i) (hz : i.zero = some z) (aa : z.cells.size = k) (Z : i.size = k) (a7 : i.bytes = a1) (hx : kp E x = v) (hy : kp E y = vs) (hR : pT e enc k v l R) (hs : Sl (Pl enc) k (hp W) vs m) (hb : mZ a1 l m = some r) (h : ∀ W' v' R', ST dd F w W' μ (X ++ (R' ++ Y)) → pT e enc k v' r R' → K v' W') : nu P E ⟨d, .call ⟨.builtin .append, #[x, y], #[t, t]⟩, ty, pos, af, g⟩ W K := by
 rcases hR with ⟨rfl, rfl, rfl⟩ | ⟨s, off, cap, p, rfl, rfl, h2, h3, h4, h5⟩
 ·exact JB X a6 hk aj h1 ht hi hz aa Z a7 hx hy (kC.nil e enc k) hs hb (fun W' v' R' a b => h W' v' R' a b.Tj)
 unfold mZ at hb
 split at hb
 case isFalse => cases hb
 rename_i U
 cases hb
 have Q : ∀ (V : Value) (W' : World), (Builtin.append_ #[t, t] ty #[.slice (some ⟨s, off, none⟩) l.length cap, vs]).run P W = .ok V W' → (execOp (kp E) ⟨d, .call ⟨.builtin .append, #[x, y], #[t, t]⟩, ty, pos, af, g⟩).run P W = .ok (.value V) W' := by
  intro V W' hV
  show (do let d ← resolve (kp E) ⟨.builtin .append, #[x, y], #[t, t]⟩ ty; invoke d.target d.args : Sem Next).run P W = _
  simp [resolve, invoke, builtin, hx, hy, hV]
 obtain ⟨A, c, rfl, an, ao, ag⟩ := hs
 have J : ST dd F w W μ (X ++ (s, .cells p e (0, 0)) :: Y) := by simpa using a6
 have hg : W.heap[s]? = some (.cells p e (0, 0)) := (J.box s _ (by simp)).1
 have I := pj hk l
 have O : ∀ u ∈ (m.map enc).flatten, u.oneCell' = true := by
  intro u hu
  obtain ⟨ys, al, ak⟩ := iq.1 hu
  obtain ⟨x, _, rfl⟩ := bG.1 al
  exact h1 x u ak
 have G : Src P i.size t (.slice A m.length c) m.length ((m.map enc).flatten) W := by
  rw [Z]
  rcases ed m.length with h0 | h0
  ·have hm : m = [] := aP h0
   subst hm
   cases A with
   | none => exact Src.ofNil W ht c
   | some ad => exact Src.ofSlice W ht ad 0 c [] (by simp) (fun j u hu => by simp at hu) (fun u hu => by cases hu)
  ·obtain ⟨b, o, cs, T, fr, rfl, h6, h7⟩ := ag h0
   refine Src.ofSlice W ht _ _ c _ (pj hk m) (fun j u hu => ?_) O
   obtain ⟨i, x, q, h8, h9, rfl⟩ := Gn hk m j u hu
   obtain ⟨ys, _, ab, ae⟩ := h7 i x h8
   cases ab
   rw [dL, gz W b (o + (i * k + q)) cs T fr h6, ← eu]
   exact ae q u h9
 have n := pj hk m
 have M : ((l ++ m).map enc).flatten = (l.map enc).flatten ++ (m.map enc).flatten := by simp
 generalize (m.map enc).flatten = fm at G O n M
 subst Z
 have ap : l.length * i.size ≤ cap * i.size := bZ _ h2
 by_cases D : l.length + m.length ≤ cap
 ·have aq : l.length * i.size + m.length * i.size ≤ cap * i.size := by rw [← cL]; exact bZ _ D
  have a8 := jk (P := P) s (off + l.length * i.size) e fm 0 p W hg (by rw [n]; omega) O
  have L : (Builtin.append_ #[t, t] ty #[.slice (some ⟨s, off, none⟩) l.length cap, .slice A m.length c]).run P W = .ok (.slice (some ⟨s, off, none⟩) (l.length + m.length) cap) (W.setRow s (p.toList.take (off + l.length * i.size) ++ fm ++ p.toList.drop (off + l.length * i.size + fm.length)).toArray) := by
   simp [Builtin.append_, aX ht, sizeOf, typeInfo, hi, G.len, D, G.cells, dL]
   simp only [jK] at a8
   rw [a8]
   simp
  refine .inl ⟨_, _, Q _ _ L, h _ _ [(s, _)] (by simpa using J.store _) (.inr ⟨s, off, cap, _, by rw [aC], rfl, by simpa using D, h3, ?_, ?_⟩)⟩
  ·simp only [dp, aC, cP, dT, dl, n]
   rw [dq (by omega)]
   omega
  ·have hA : (p.toList.take (off + l.length * i.size)).length = off + l.length * i.size := by simp; omega
   show ((p.toList.take (off + l.length * i.size) ++ (fm ++ p.toList.drop (off + l.length * i.size + fm.length))).drop off).take ((l ++ m).length * i.size) = _
   rw [M, List.drop_append, gG, hA, show off - (off + l.length * i.size) = 0 by omega, List.drop_zero, show off + l.length * i.size - off = l.length * i.size by omega, h5]
   rw [aC, cL, eO, eO, I, n, dx (by rw [I]; omega), show l.length * i.size + m.length * i.size - l.length * i.size = m.length * i.size by omega, dx (by rw [n]; omega)]
   simp
 ·have hold : (Builtin.firstCells i.size l.length (.slice (some ⟨s, off, none⟩) l.length cap)).run P W.drew = .ok ((l.map enc).flatten).toArray W.drew := by
   refine run_firstCells_some W.drew i.size l.length ⟨s, off, none⟩ l.length cap _ I (fun j u hu => ?_)
   rw [dL]
   show W.cell? ⟨s, off + j, none⟩ = some u
   rw [gz W s (off + j) p e (0, 0) hg]
   rw [← h5] at hu
   have hj : j < l.length * i.size := by have := (bF.1 hu).1; simp at this; omega
   rw [dO hj, dK] at hu
   simpa using hu
  have hlen : (l ++ m).length = l.length + m.length := aC
  have ai := grownCap_ge W (l.length + m.length) cap e
  have ah := iR W (l.length + m.length) cap e U.2
  have L := run_append_grow_src (P := P) W t t ty e i z ht hi hz (some ⟨s, off, none⟩) l.length cap ((l.map enc).flatten) hold _ m.length _ G (by omega) (by have := U.2; unfold maxLen at this; omega) (growslice_fits (by omega) (by rw [a7]; exact U.1))
  have h6 := J.drew.alloc (.cells (((l.map enc).flatten ++ fm).toArray ++ Builtin.zeroCells z.cells (grownCap W (l.length + m.length) cap e - (l.length + m.length))) e (0, 0))
  have h7 := (ST.drop (A := (W.drew.heap.size, _) :: X) h6).perm (L' := X ++ ([(W.heap.size, _)] ++ Y)) (by simpa using (eL (a := (W.heap.size, _)) (l₁ := X) (l₂ := Y)).symm)
  refine .inl ⟨_, _, Q _ _ L, h _ _ _ h7 (kC.Tj (.inr ⟨W.heap.size, grownCap W (l.length + m.length) cap e, _, by rw [hlen], rfl, by rw [hlen]; exact ai, ah, ?_, ?_⟩))⟩
  ·rw [Array.size_append, size_zeroCells, aa]
   simp only [dp, aC, I, n]
   rw [← cL, ← cL]
   congr 1
   omega
  ·rw [Array.toList_append, List.toList_toArray, hlen, M, List.take_append_of_le_length (by simp only [aC, I, n]; rw [cL]; exact aS _), dx (by simp only [aC, I, n]; rw [cL]; exact aS _)]
end
end Go.Proofs.YtklbhegeiijbjaaGreat
namespace Go.Proofs.YtklbhegeiijbjaaGreat
open Go.RowKit
section
variable {P : Program} {ops : Array Oper} {Q : Exit → Act → World → Prop} {S : Array Bool → World → Prop}
def ye (ops : Array Oper) (l : Array Bool) : Prop := ∀ j o, ops[j]? = some o → l.getD j true = true → ∀ e ∈ o.after, Region.binds .any e = true → l.getD e.on true = true
def G9 (ops : Array Oper) : Nat → List Nat → Bool
 | _, [] => true
 | j, k :: r => (match ops[j]? with | some o => o.after.any (fun e => Region.binds .any e && e.on == k) | none => false) && G9 ops k r
theorem GO {l : Array Bool} (c : ye ops l) : ∀ (r : List Nat) (j i : Nat), G9 ops j r = true → (j :: r).getLast? = some i → l.getD j true = true → l.getD i true = true
 | [], j, i, _, h, a => by simp at h; subst h; exact a
 | k :: r, j, i, h, g, a => by
  simp only [G9, bn] at h
  obtain ⟨h1, d⟩ := h
  cases b : ops[j]? with
  | none => rw [b] at h1; cases h1
  | some o =>
   rw [b] at h1
   simp only [Array.any_eq_true] at h1
   obtain ⟨n, m, h1⟩ := h1
   simp only [bn, jL] at h1
   have := c j o b a o.after[n] (Array.getElem_mem m) h1.1
   rw [h1.2] at this
   exact GO c r k i d (by simpa [List.getLast?_cons_cons] using g) this
def Gh (ops : Array Oper) (i : Nat) (l : Array Bool) : Prop := ye ops l ∧ l.getD i true = false
theorem Gh.D7 {l : Array Bool} {i : Nat} (h : Gh ops i l) (j : Nat) (r : List Nat) (a : G9 ops j r = true) (c : (j :: r).getLast? = some i) : l.getD j true = false := by
 cases b : l.getD j true with
 | false => rfl
 | true => have := GO h.1 r j i a c b; rw [h.2] at this; cases this
theorem ye.start (n : Nat) (h : n = ops.size) : ye ops (Array.replicate n false) := by
 subst h
 intro j o c b
 have a : j < ops.size := (cN.1 c).1
 simp [a] at b
theorem ye.set {l : Array Bool} {i : Nat} (h : ye ops l) (q : i ∈ Region.ready .any ops l) : ye ops (l.setIfInBounds i true) := by
 intro j o p n e he m
 have up : ∀ {k : Nat}, l.getD k true = true → (l.setIfInBounds i true).getD k true = true := fun {k} hk => by
  by_cases c : i = k
  ·subst c
   by_cases g : i < l.size
   ·simp [g]
   ·simp [g]
  ·rw [jT true c]; exact hk
 by_cases b : i = j
 ·subst b
  obtain ⟨_, r, d, a⟩ := kc.1 q
  rw [p] at d
  cases d
  refine up ?_
  have := a e he m
  by_cases g : e.on < l.size
  ·simp [g] at this ⊢; exact this
  ·simp [g]
 ·rw [jT true b] at n
  exact up (h j o p n e he m)
def CO (P : Program) (ops : Array Oper) (S : Array Bool → World → Prop) (i : Nat) (o : Oper) (v : Value) (a : Act) : Prop :=
 (Region.wanted o (yielded ops a.tmps) = true ∧ ∀ l w, Gh ops i l → S l w → (execOp a.eval o).run P w = .ok (.value v) w) ∨
 (Region.wanted o (yielded ops a.tmps) = false ∧ v = undef)
theorem CO.Tm {i : Nat} {o : Oper} {v : Value} {a : Act} {l : Array Bool} (h : CO P ops S i o v a) (hp : Gh ops i l) : YieldsIf P ops (S l) o v a :=
 h.imp (fun ⟨h1, b⟩ => ⟨h1, fun w hw => b l w hp hw⟩) id
def LL (P : Program) (ops : Array Oper) (Q : Exit → Act → World → Prop) (S : Array Bool → World → Prop) : Nat → Array Bool → Act → World → Prop
 | 0, l, a, w => Region.ready .any ops l = [] ∧ Q .normal a w
 | n + 1, l, a, w => (Region.ready .any ops l = [] → Q .normal a w) ∧
  ∀ i ∈ Region.ready .any ops l, wpOp P ops Q i (fun c b => S (l.setIfInBounds i true) b ∧ LL P ops Q S n (l.setIfInBounds i true) c b) a w
theorem KR : ∀ (n : Nat) (l : Array Bool) (a : Act) (w : World), LL P ops Q S n l a w → wpAny P .any ops Q n l a w
 | 0, _, _, _, h => h
 | n + 1, _, _, _, h => ⟨h.1, fun i d => wpOp_mono (fun b g c => KR n _ b g c.2) (h.2 i d)⟩
theorem Oa {i j : Nat} {d p : Oper} {v : Value} (t : ops[j]? = some p) (m : d.apart ops p = true) (n : ∀ cs b, d.op ≠ .select cs b) (o : ∀ cs b, p.op ≠ .select cs b) (s : ∀ c a w, Q (.panic c) (a.put d.dst v) w → Q (.panic c) a w) {K : Act → World → Prop} {a : Act} {w : World} (u : CO P ops S i d v a) (h : wpOp P ops Q j K (a.put d.dst v) w) :
  wpOp P ops Q j (fun g r => CO P ops S i d v g ∧ K (g.put d.dst v) r) a w := by
 have h1 : YieldsIf P ops (fun w => ∃ l, Gh ops i l ∧ S l w) d v a := u.imp (fun ⟨h1, k⟩ => ⟨h1, fun w ⟨l, hp, hw⟩ => k l w hp hw⟩) id
 refine wpOp_mono (fun g r q => ⟨q.1.imp (fun ⟨h1, k⟩ => ⟨h1, fun l w hp hw => k w ⟨l, hp, hw⟩⟩) id, q.2⟩) (wpOp_putIf (S := fun w => ∃ l, Gh ops i l ∧ S l w) t m n o s h1 h)
theorem Is {i : Nat} {x : Oper} {v : Value} (R : ops[i]? = some x) (s : ∀ (j : Nat) (o : Oper) cs b, ops[j]? = some o → o.op ≠ .select cs b) (hQ : ∀ c a w, Q (.panic c) (a.put x.dst v) w → Q (.panic c) a w) (hm : ∀ l w, S (l.setIfInBounds i true) w → S l w) :
  ∀ (n : Nat) (l : Array Bool) (a : Act) (w : World), (∀ j y, ops[j]? = some y → j ≠ i → l.getD j true = false → (∀ e ∈ y.after, Region.binds .any e = true → e.on ≠ i) → x.apart ops y = true) →
   ye ops l → i ∈ Region.ready .any ops l → CO P ops S i x v a → S (l.setIfInBounds i true) w → LL P ops Q S n (l.setIfInBounds i true) (a.put x.dst v) w → LL P ops Q S (n + 1) l a w := by
 intro n
 induction n with
 | zero =>
  intro l a w _ I q J z H
  refine ⟨fun h => (by rw [h] at q; cases q), fun j D => ?_⟩
  by_cases d : j = i
  ·subst d
   exact (J.Tm ⟨I, (kc.1 q).1⟩).wpOp R (hm l w z) ⟨z, H⟩
  ·have := ready_mono D d
   rw [H.1] at this
   cases this
 | succ n ih =>
  intro l a w m I q J z H
  refine ⟨fun h => (by rw [h] at q; cases q), fun j D => ?_⟩
  by_cases d : j = i
  ·subst d
   exact (J.Tm ⟨I, (kc.1 q).1⟩).wpOp R (hm l w z) ⟨z, H⟩
  have h1 := H.2 j (ready_mono D d)
  obtain ⟨r, y, u, A⟩ := kc.1 D
  have F : ∀ e ∈ y.after, Region.binds .any e = true → e.on ≠ i := fun e he hb O => by
   have t := A e he hb
   have Y := (kc.1 q).1
   rw [O] at t
   rcases Nat.lt_or_ge i l.size with L | L
   ·simp [L] at Y t; rw [Y] at t; cases t
   ·simp [Array.getElem?_eq_none L] at t
  have t := Oa u (m j y u d r F) (fun cs b => s i x cs b R) (fun cs b => s j y cs b u) hQ J h1
  have p : ∀ k ok, ops[k]? = some ok → k ≠ i → (l.setIfInBounds j true).getD k true = false → (∀ e ∈ ok.after, Region.binds .any e = true → e.on ≠ i) → x.apart ops ok = true := fun k ok hk T G U => by
   refine m k ok hk T ?_ U
   by_cases E : j = k
   ·subst E; exact r
   ·rw [jT true E] at G; exact G
  have g : (l.setIfInBounds i true).setIfInBounds j true = (l.setIfInBounds j true).setIfInBounds i true := Array.setIfInBounds_comm _ _ (Ne.symm d)
  refine wpOp_mono (fun a' W M => ?_) t
  have Z : S ((l.setIfInBounds j true).setIfInBounds i true) W := by rw [← g]; exact M.2.1
  refine ⟨hm _ W Z, ih (l.setIfInBounds j true) a' W p (I.set D) (ready_mono q (Ne.symm d)) M.1 Z ?_⟩
  rw [← g]
  exact M.2.2
end
def PX (P : Program) (n : Nat) (ops : Array Oper) (Q : qX) (S : Array Bool → World → Prop) (fuel : Nat) (listed : Array Bool) (E : Nat → Value) (W : World) : Prop :=
 ye ops listed → ∀ a, Ag n a E → LL P ops (lift n Q) S fuel listed a W
section
variable {P : Program} {n : Nat} {Q : qX} {E : Nat → Value} {W : World} {ops : Array Oper} {S : Array Bool → World → Prop} {fuel : Nat} {listed : Array Bool}
theorem J1 {id : Nat} {l : List Oper} (S : Array Bool → World → Prop) (hm : P.follows .mixedOrders = true) (h : PX P n l.toArray Q S l.length (Array.replicate l.length false) E W.drew) : CW P n (.region id l.toArray true) Q E W := fun a ha =>
 wp_region_any hm (KR _ _ _ _ (h (ye.start _ (by simp)) a ha))
def D6 (ops : Array Oper) (listed : Array Bool) (i : Nat) : Bool := Region.noSelect ops && Region.free .any ops listed i && (Region.ready .any ops listed).contains i
theorem lJ {o : Oper} {dd : Nat} {v : Value} (i : Nat) (d : ops[i]? = some o) (hk : D6 ops listed i = true) (hw : tz n ops E o) (k : o.dst = some dd) (m : dd < n) (hm : ∀ l w, S (l.setIfInBounds i true) w → S l w) (j : S (listed.setIfInBounds i true) W) (p : ∀ l W, Gh ops i l → S l W → mx P E o W v W) (h : PX P n ops Q S fuel (listed.setIfInBounds i true) (oM E dd v) W) : PX P n ops Q S (fuel + 1) listed E W := fun c a ha => by
 simp only [D6, bn] at hk
 have g : i ∈ Region.ready .any ops listed := by simpa using hk.2
 exact Is d (Region.noSelect_spec hk.1.1) (fun _ _ _ h => h) hm fuel listed a W (Region.free_spec d hk.1.2) c g (.inl ⟨hw.of ha, fun l w hp b => by rw [ha.eval]; exact p l w hp b⟩) j (by rw [k]; exact h (c.set g) _ (ha.put m v))
theorem uE {A : Value → Prop} {o : Oper} {dd : Nat} (i : Nat) (d : ops[i]? = some o) (hk : D6 ops listed i = true) (hw : tz n ops E o) (c : o.dst = some dd) (g : dd < n) (hm : ∀ l w, S (l.setIfInBounds i true) w → S l w) (b : S (listed.setIfInBounds i true) W) (j : ∃ p, A p ∧ ∀ W, mx P E o W p W) (h : ∀ p, A p → PX P n ops Q S fuel (listed.setIfInBounds i true) (oM E dd p) W) : PX P n ops Q S (fuel + 1) listed E W := by
 obtain ⟨p, h1, a⟩ := j
 exact lJ i d hk hw c g hm b (fun _ W _ _ => a W) (h p h1)
theorem QE {o : Oper} {dd : Nat} (i : Nat) (c : ops[i]? = some o) (hk : D6 ops listed i = true) (hw : ∀ a, Ag n a E → Region.wanted o (yielded ops a.tmps) = false) (j : o.dst = some dd) (k : dd < n) (hm : ∀ l w, S (l.setIfInBounds i true) w → S l w) (g : S (listed.setIfInBounds i true) W) (h : PX P n ops Q S fuel (listed.setIfInBounds i true) (oM E dd undef) W) : PX P n ops Q S (fuel + 1) listed E W := fun b a ha => by
 simp only [D6, bn] at hk
 have d : i ∈ Region.ready .any ops listed := by simpa using hk.2
 exact Is c (Region.noSelect_spec hk.1.1) (fun _ _ _ h => h) hm fuel listed a W (Region.free_spec c hk.1.2) b d (.inr ⟨hw a ha, rfl⟩) g (by rw [j]; exact h (b.set d) _ (ha.put k _))
theorem SX {o : Oper} {dd j t : Nat} {want : Bool} (i : Nat) (k : ops[i]? = some o) (hk : D6 ops listed i = true) (g : o.guard = some (j, want)) (m : (ops[j]?).bind (·.dst) = some t) (q : t < n) (b : E t = .bool (!want)) (d : o.dst = some dd) (p : dd < n) (hm : ∀ l w, S (l.setIfInBounds i true) w → S l w) (c : S (listed.setIfInBounds i true) W) (h : PX P n ops Q S fuel (listed.setIfInBounds i true) (oM E dd undef) W) : PX P n ops Q S (fuel + 1) listed E W :=
 QE i k hk (fun a ha => by have r := ha.yield m q b; simp [Region.wanted, g, r]) d p hm c h
theorem Rw {o : Oper} {dd : Nat} (i : Nat) (r : ops[i]? = some o) (d : Region.ready .any ops listed = [i]) (hw : tz n ops E o) (k : o.dst = some dd) (l : dd < n) (h : nu P E o W fun v W' => S (listed.setIfInBounds i true) W' ∧ PX P n ops Q S fuel (listed.setIfInBounds i true) (oM E dd v) W') : PX P n ops Q S (fuel + 1) listed E W := fun g a ha => by
 have b : i ∈ Region.ready .any ops listed := by rw [d]; simp
 refine ⟨fun q => (by rw [q] at d; cases d), fun j m => ?_⟩
 rw [d] at m
 obtain rfl := aW.1 m
 unfold wpOp
 simp only [r]
 rw [aV (hw.of ha)]
 refine .inl ?_
 unfold Oper.wp
 rw [ha.eval]
 rcases h with ⟨v, W', h1, c⟩ | ⟨W', h1, c⟩ | ⟨f, args, h1, c⟩
 ·rw [h1, fZ]; exact ⟨c.1, by rw [k]; exact c.2 (g.set b) _ (ha.put l v)⟩
 ·rw [h1, gF]; exact ⟨c.1, by rw [k]; exact c.2 (g.set b) _ (ha.put l _)⟩
 ·rw [h1, gd]
  refine cZ c ?_
  rintro e s ⟨v, rfl, p⟩
  exact ⟨p.1, by simp only [k]; exact p.2 (g.set b) _ (ha.put l v)⟩
theorem SF {o : Oper} (i : Nat) (q : ops[i]? = some o) (d : Region.ready .any ops listed = [i]) (hw : tz n ops E o) (k : o.dst = none) (h : nu P E o W fun _ W' => S (listed.setIfInBounds i true) W' ∧ PX P n ops Q S fuel (listed.setIfInBounds i true) E W') : PX P n ops Q S (fuel + 1) listed E W := fun g a ha => by
 have b : i ∈ Region.ready .any ops listed := by rw [d]; simp
 refine ⟨fun p => (by rw [p] at d; cases d), fun j l => ?_⟩
 rw [d] at l
 obtain rfl := aW.1 l
 unfold wpOp
 simp only [q]
 rw [aV (hw.of ha)]
 refine .inl ?_
 unfold Oper.wp
 rw [ha.eval]
 rcases h with ⟨v, W', h1, c⟩ | ⟨W', h1, c⟩ | ⟨f, args, h1, c⟩
 ·rw [h1, fZ, k]; exact ⟨c.1, c.2 (g.set b) _ (ha.zH _)⟩
 ·rw [h1, gF, k]; exact ⟨c.1, c.2 (g.set b) _ (ha.zH _)⟩
 ·rw [h1, gd]
  refine cZ c ?_
  rintro e r ⟨v, rfl, m⟩
  simp only [k]
  exact ⟨m.1, m.2 (g.set b) _ (ha.zH _)⟩
theorem lF (c : Region.ready .any ops listed = []) (h : Q .normal E W) : PX P n ops Q S fuel listed E W := fun _ a ha => by
 cases fuel with
 | zero => exact ⟨c, E, ha, h⟩
 | succ f => exact ⟨fun _ => ⟨E, ha, h⟩, fun i b => by rw [c] at b; cases b⟩
theorem Ah {p : Prop} {b : Bool} (a : b = true) (h : b = false) : p := by rw [a] at h; cases h
theorem pf {a : Array Bool} (b : listed = a) (h : PX P n ops Q S fuel a E W) : PX P n ops Q S fuel listed E W := by rw [b]; exact h
theorem G3 {o p : Oper} {d r : Nat} (i j : Nat) (F : ops[i]? = some o) (G : ops[j]? = some p) (m : Region.ready .any ops listed = [i, j]) (hw : tz n ops E o) (w : tz n ops E p) (g : o.dst = some d) (t : p.dst = some r) (l : d < n) (u : r < n) (h : nu P E o W fun v W' => S (listed.setIfInBounds i true) W' ∧ PX P n ops Q S fuel (listed.setIfInBounds i true) (oM E d v) W') (A : nu P E p W fun v W' => S (listed.setIfInBounds j true) W' ∧ PX P n ops Q S fuel (listed.setIfInBounds j true) (oM E r v) W') : PX P n ops Q S (fuel + 1) listed E W := fun s a ha => by
 have key : ∀ (k : Nat) (q : Oper) (e : Nat), ops[k]? = some q → k ∈ Region.ready .any ops listed → tz n ops E q → q.dst = some e → e < n → (nu P E q W fun v W' => S (listed.setIfInBounds k true) W' ∧ PX P n ops Q S fuel (listed.setIfInBounds k true) (oM E e v) W') →
   wpOp P ops (lift n Q) k (fun z x => S (listed.setIfInBounds k true) x ∧ LL P ops (lift n Q) S fuel (listed.setIfInBounds k true) z x) a W := by
  intro k q e hk b hw g l h
  unfold wpOp
  simp only [hk]
  rw [aV (hw.of ha)]
  refine .inl ?_
  unfold Oper.wp
  rw [ha.eval]
  rcases h with ⟨v, W', h1, c⟩ | ⟨W', h1, c⟩ | ⟨f, args, h1, c⟩
  ·rw [h1, fZ]; exact ⟨c.1, by rw [g]; exact c.2 (s.set b) _ (ha.put l v)⟩
  ·rw [h1, gF]; exact ⟨c.1, by rw [g]; exact c.2 (s.set b) _ (ha.put l _)⟩
  ·rw [h1, gd]
   refine cZ c ?_
   rintro e x ⟨v, rfl, y⟩
   exact ⟨y.1, by simp only [g]; exact y.2 (s.set b) _ (ha.put l v)⟩
 refine ⟨fun D => (by rw [D] at m; cases m), fun k hk => ?_⟩
 rw [m] at hk
 rcases aO.1 hk with rfl | hk
 ·exact key _ o d F (by rw [m]; simp) hw g l h
 ·obtain rfl := aW.1 hk
  exact key _ p r G (by rw [m]; simp) w t u A
theorem mn {l : Array Bool} {i j : Nat} {A : Prop} (a : Nat.beq i j = false) (h : (l.setIfInBounds i true).getD j true = false → A) : l.getD j true = false → A := fun b => h (by
 rw [jT true (fun e => by subst e; simp at a)]; exact b)
end
theorem AE.at {α : Type} {e : TypeId} {enc : α → List Value} {k : Nat} {v : Value} {l : List α} {R : List (Nat × Obj)} (h : kC e enc k v l R) (hk : ∀ x, (enc x).length = k) {p : Value} {i : Nat} (hp : AE R k p i) {x : α} (d : l[i]? = some x) : At (zJ R) p (enc x) := by
 obtain ⟨b, a, cap, rfl, rfl, _, _, _, _, rfl, c⟩ := Bc h hk hp d
 exact ⟨b, i * k, a, e, (0, 0), rfl, by simp [zJ], c⟩
theorem vi.form {κ β : Type} {kenc : κ → Value} {vf : β → Value} {μ : kL} {v : Value} {l : List (κ × β)} (h : vi kenc vf μ v l) : ∃ r, v = .map r := by
 rcases h with ⟨h, _⟩ | ⟨m, es, clock, h, _⟩
 ·exact ⟨_, h⟩
 ·exact ⟨_, h⟩
section
variable {P : Program} {W : World} {E : Nat → Value} {d : Option Nat} {ty : TypeId} {pos : String} {af : Array Edge} {g : Option (Nat × Bool)}
theorem IE {c n : TypeId} {x y : Operand} {α β : Type} {fv : Value} {μ : kL} {i : α → List Value} {m : β → Value} {pm : α → Option β} {s u : Array TypeId} {bb : Bool} (j : P.underlying c = some (.func s u bb)) (h : te P fv μ i m pm) (k : kp E x = fv) (l : kp E y = .nilFunc) :
  mx P E ⟨d, .binOp .eql c x y n, ty, pos, af, g⟩ W (.bool false) W := by
 obtain ⟨f, a, b, rfl⟩ := h.form
 exact KA j k l
end
noncomputable def GK {β : Type} (l : List (ByteArray × β)) : Option (List ByteArray) :=
 open Classical in if (l.map (·.1)).Nodup ∧ (∀ p ∈ l, p.1.size ≤ maxLen) ∧ l.length * 16 ≤ 140737488355328 then some (oF (l.map (·.1))) else none
def NX {κ κ2 β α : Type} (a : Nat) (mk : κ → κ2 → α) (l : List (κ × List (κ2 × β))) : Option (List α) :=
 if (l.flatMap (fun p => p.2.map (fun q => mk p.1 q.1))).length * a ≤ 140737488355328 ∧ (l.flatMap (fun p => p.2.map (fun q => mk p.1 q.1))).length ≤ maxLen then some (l.flatMap (fun p => p.2.map (fun q => mk p.1 q.1))) else none
section
variable {P : Program} {n : Nat} {Q : qX} {E : Nat → Value} {W : World} {ops : Array Oper} {rest : List Oper}
variable {dd : Bool} {α : Type} {enc : α → List Value} {k : Nat} {μ : kL} {v : Value}
variable {d : Option Nat} {ty : TypeId} {pos : String} {af : Array Edge} {g : Option (Nat × Bool)} {F : Nat → Prop} {w : World} {L : List (Nat × Obj)}
def Ai (enc : α → List Value) (k : Nat) : pW (List α) := fun μ ys x => ∃ v, ys = [v] ∧ Sl (Pl enc) k μ v x
theorem Ai.mono (enc : α → List Value) (k : Nat) : GP (Ai enc k) := fun _ _ _ _ b ⟨v, h1, a⟩ => ⟨v, h1, a.mono (Pl.mono _) b⟩
inductive BQ (enc : α → List Value) (k : Nat) (μ : kL) : List Value → List (List α) → Prop
 | nil : BQ enc k μ [] []
 | cons {v : Value} {x : List α} {vs : List Value} {l : List (List α)} : Sl (Pl enc) k μ v x → BQ enc k μ vs l → BQ enc k μ (v :: vs) (x :: l)
theorem BQ.length {vs : List Value} {l : List (List α)} (h : BQ enc k μ vs l) : vs.length = l.length := by
 induction h with
 | nil => rfl
 | cons _ _ ih => simp [ih]
theorem BQ.get {vs : List Value} {l : List (List α)} (h : BQ enc k μ vs l) : ∀ (i : Nat) (x : List α), l[i]? = some x → ∃ v, vs[i]? = some v ∧ Sl (Pl enc) k μ v x := by
 induction h with
 | nil => intro i x a; simp at a
 | cons h1 _ ih =>
  intro i x a
  cases i with
  | zero => simp at a; subst a; exact ⟨_, rfl, h1⟩
  | succ i => simpa using ih i x (by simpa using a)
theorem Ai.lit {b m : Nat} {vs : List Value} {e : TypeId} {l : List (List α)} (hm : l.length = m) (d : m ≤ maxLen) (g : μ b = some (.cells vs.toArray e (0, 0))) (h : BQ enc k μ vs l) : Sl (Ai enc k) 1 μ (.slice (some ⟨b, 0, none⟩) m m) l := by
 subst hm
 refine ⟨_, _, rfl, aS _, d, fun _ => ⟨b, 0, _, _, _, rfl, g, fun i x n => ?_⟩⟩
 obtain ⟨v, h1, c⟩ := h.get i x n
 refine ⟨[v], rfl, ⟨v, rfl, c⟩, fun j y a => ?_⟩
 cases j with
 | zero => simp at a; subst a; simpa using h1
 | succ j => simp at a
theorem Ga {k2 : Nat} {t e : TypeId} {x a : Operand} {r : IntKind} {i : Int} {l : List (List α)} {x0 : List α} (o : P.underlying t = some (.slice e)) (he : ∀ w, (sizeOf e).run P w = .ok 1 w) (q : kp E x = v) (k : kp E a = .int r i) (n : Sl (Ai enc k2) 1 μ v l) (b : 0 ≤ i) (m : l[i.toNat]? = some x0) :
  ∃ p, (∃ v0, At μ p [v0] ∧ Sl (Pl enc) k2 μ v0 x0) ∧ ∀ W, mx P E ⟨d, .indexAddr t x a, ty, pos, af, g⟩ W p W := by
 obtain ⟨p, ys, h1, ⟨v0, rfl, c⟩, h, j⟩ := HZ (d := d) (ty := ty) (pos := pos) (af := af) (g := g) o he q k n b m
 exact ⟨p, ⟨v0, h, c⟩, j⟩
theorem JX {x : Operand} {t e : TypeId} (a : P.underlying t = some (.slice e)) (b : kp E x = .slice none 0 0) : mx P E ⟨d, .call ⟨.builtin .cap, #[x], #[t]⟩, ty, pos, af, g⟩ W (.int .i64 0) W := by
 show (do let d ← resolve (kp E) ⟨.builtin .cap, #[x], #[t]⟩ ty; invoke d.target d.args : Sem Next).run P W = _
 simp [resolve, invoke, builtin, Builtin.cap_, aX a, b, goInt]
theorem N0 {x y : Operand} {ats : Array TypeId} {k : IntKind} {a b : Int} (c : kp E x = .int k a) (h : kp E y = .int k b) :
  mx P E ⟨d, .call ⟨.builtin .max, #[x, y], ats⟩, ty, pos, af, g⟩ W (.int k (if b > a then b else a)) W := by
 show (do let d ← resolve (kp E) ⟨.builtin .max, #[x, y], ats⟩ ty; invoke d.target d.args : Sem Next).run P W = _
 simp [resolve, invoke, c, h, builtin, Builtin.max_, Builtin.max2]
theorem MV {t e : TypeId} {x ih : Operand} {h : IntKind} (b : P.underlying t = some (.slice e)) (he : ∀ w, (sizeOf e).run P w = .ok k w) (c : kp E x = .slice none 0 0) (a : kp E ih = .int h 0) :
  mx P E ⟨d, .slice t x none (some ih) none, ty, pos, af, g⟩ W (.slice none 0 0) W := by
 show (do pure (.value (← Instr.sliceAt t (kp E x) none (some (kp E ih)) none)) : Sem Next).run P W = _
 rw [c, a]
 simp [Instr.sliceAt, Instr.slice, Instr.sliceBounds, Instr.sliceBound, asIntOf, aX b, he W]
def Hw {α : Type} (a : Nat) (z : α) (n : Int) : Option (List α) := if 0 < n ∧ n * a ≤ 140737488355328 ∧ n ≤ (maxLen : Int) then some (List.replicate n.toNat z) else none
theorem GA (t k ty e : TypeId) (i : TypeInfo) (z : Value) (s : P.underlying t = some (.slice e)) (j : P.underlying k = some (.int .i64)) (o : P.info? e = some i) (u : i.zero = some z) (n : Nat) (l : 0 < n) (r : 0 < i.size) (m : n ≤ 9223372036854775807) (c : n * i.bytes ≤ 140737488355328) (W : World) :
  (Builtin.append_ #[t, k] ty #[.slice none 0 0, .int .i64 (n : Int)]).run P W =
   .ok (.slice (some ⟨W.heap.size, 0, none⟩) n (grownCap W n 0 e)) (W.drew.alloc (.cells (Builtin.zeroCells z.cells n ++ Builtin.zeroCells z.cells (grownCap W n 0 e - n)) e)) := by
 have hw : IntKind.i64.wrap (n : Int) = (n : Int) := by unfold IntKind.wrap; simp [IntKind.bits, IntKind.signed]; omega
 have h1 : ¬ ((n : Int) < 0) := by omega
 have a : ¬ (281474976710656 < (n : Int) * i.bytes) := by
  have := Int.ofNat_le.2 c
  rw [Int.natCast_mul] at this
  omega
 have d : ¬ (n * i.size = 0) := fun h => by rcases Nat.mul_eq_zero.1 h with h | h <;> omega
 have p : n ≠ 0 := by omega
 have q : i.size ≠ 0 := by omega
 have b : ¬ (9223372036854775807 < (n : Int)) := by omega
 have g : ¬ (281474976710656 < Builtin.nextslicecap n 0 * i.bytes) := by rw [nextslicecap_zero l]; omega
 simp [Builtin.append_, aX s, aX j, sizeOf, typeInfo, zeroValue, o, u, asInt, asIntOf, hw, h1, a, p, b, g, Question.forced, run_firstCells_none, newRow, grownCap]
 exact fun h => absurd h d
theorem Js {K : Value → World → Prop} {α : Type} {e t v : TypeId} {enc : α → List Value} {k p : Nat} {c : Value} {n : Int} {z : α} {r : List α} (X : List (Nat × Obj)) {Y : List (Nat × Obj)} {x y : Operand} {i : TypeInfo} (j : ST dd F w W μ (X ++ Y)) (hk : ∀ x, (enc x).length = k) (Q : 0 < k) (ht : P.underlying t = some (.slice e)) (U : P.underlying v = some (.int .i64)) (hi : P.info? e = some i) (hz : i.zero = some c) (T : i.size = k) (J : i.bytes = p) (hc : c.cells = (enc z).toArray) (hx : kp E x = .slice none 0 0) (hy : kp E y = .int .i64 n) (a : Hw p z n = some r) (h : ∀ W' v' R', ST dd F w W' μ (X ++ (R' ++ Y)) → kC e enc k v' r R' → K v' W') : nu P E ⟨d, .call ⟨.builtin .append, #[x, y], #[t, v]⟩, ty, pos, af, g⟩ W K := by
 unfold Hw at a
 split at a
 case isFalse => cases a
 rename_i I
 cases a
 obtain ⟨n, rfl⟩ : ∃ m : Nat, n = (m : Int) := ⟨n.toNat, by omega⟩
 have R : 0 < n := by omega
 subst T; subst J
 have hM : n ≤ maxLen := by omega
 have G : n ≤ 9223372036854775807 := by simp only [maxLen] at hM; omega
 have D : n * i.bytes ≤ 140737488355328 := Int.ofNat_le.1 (by rw [Int.natCast_mul]; exact I.2.1)
 have hr := GA (P := P) t v ty e i c ht U hi hz n R Q G D W
 have s : (execOp (kp E) ⟨d, .call ⟨.builtin .append, #[x, y], #[t, v]⟩, ty, pos, af, g⟩).run P W = .ok (.value (.slice (some ⟨W.heap.size, 0, none⟩) n (grownCap W n 0 e))) (W.drew.alloc (.cells (Builtin.zeroCells c.cells n ++ Builtin.zeroCells c.cells (grownCap W n 0 e - n)) e)) := by
  show (do let d ← resolve (kp E) ⟨.builtin .append, #[x, y], #[t, v]⟩ ty; invoke d.target d.args : Sem Next).run P W = _
  simp [resolve, invoke, builtin, hx, hy, hr]
 have M := oO _ _ _ _ hr
 refine .inl ⟨_, _, s, ?_⟩
 have O := grownCap_ge W n 0 e
 have L : grownCap W n 0 e ≤ maxLen := iR W n 0 e hM
 have Z : ∀ m, (Builtin.zeroCells c.cells m).toList = (List.replicate m (enc z)).flatten := fun m => by rw [hc, CN]
 have u : c.cells.size = i.size := by rw [hc, dp, hk]
 have l : kC e enc i.size (.slice (some ⟨W.heap.size, 0, none⟩) n (grownCap W n 0 e)) (List.replicate n z) [(W.heap.size, .cells (Builtin.zeroCells c.cells n ++ Builtin.zeroCells c.cells (grownCap W n 0 e - n)) e (0, 0))] := by
  refine .inr ⟨W.heap.size, grownCap W n 0 e, _, by rw [ig], rfl, by simpa using O, L, ?_, ?_⟩
  ·simp only [Array.size_append, size_zeroCells, u, ← cL]
   congr 1
   omega
  ·have A : (Builtin.zeroCells c.cells n).toList.length = n * i.size := by rw [dl, size_zeroCells, u]
   rw [ig, Array.toList_append, ← A, gK, Z, iS]
 refine h _ _ _ ?_ l
 have hex : Ex dd W (W.drew.alloc (.cells (Builtin.zeroCells c.cells n ++ Builtin.zeroCells c.cells (grownCap W n 0 e - n)) e)) := ⟨rfl, rfl, rfl, tu.of M, by simp, fun b a => heap_alloc_old W.drew _ a⟩
 have h1 := j.Fg hex
 have q := h1.nd
 refine ⟨h1.os, h1.tape, h1.output, h1.drawn, h1.size, h1.mR, h1.mem, fun b o a => ?_, ?_⟩
 ·simp only [aQ, aW] at a
  rcases a with a | a | a
  ·exact h1.box b o (by simp [a])
  ·cases a
   refine ⟨heap_alloc_new W.drew _, ?_, .inl j.size⟩
   cases hm : μ W.heap.size with
   | none => rfl
   | some x => have := j.Dv hm; omega
  ·exact h1.box b o (by simp [a])
 ·simp only [cC, bH, ev, eV] at q ⊢
  refine (fW eL).2 (dF.2 ⟨fun hm => ?_, q⟩)
  rw [← cC] at hm
  obtain ⟨⟨b, o⟩, a, A⟩ := bG.1 hm
  have := j.Es a
  simp at A
  omega
end
theorem yz {p : Prop} [Decidable p] {u : Unit} (h : ot (decide p) = some u) : p := gL (F4 h)
section
variable {P : Program} {E : Nat → Value} {W : World} {d : Option Nat} {ty : TypeId} {pos : String} {af : Array Edge} {g : Option (Nat × Bool)}
 {F : Nat → Prop} {w : World} {μ : kL} {L : List (Nat × Obj)} {α : Type} {e : TypeId} {enc : α → List Value} {k : Nat} {v : Value} {l : List α} {R : List (Nat × Obj)} {dd : Bool}
def Ay {α : Type} (l : List α) (i j : Nat) : List α := l.take i ++ l.drop j ++ l.drop (l.length - (j - i))
theorem Cu {α : Type} (l : List α) {i j : Nat} (a : i ≤ j) (b : j ≤ l.length) : (Ay l i j).length = l.length := by
 simp [Ay]; omega
theorem Ia (hk : ∀ x, (enc x).length = k) (l : List α) (i : Nat) (b : i ≤ l.length) : (l.map enc).flatten.drop (i * k) = ((l.drop i).map enc).flatten := by
 have h1 : (l.map enc).flatten = ((l.take i).map enc).flatten ++ ((l.drop i).map enc).flatten := by rw [← cQ, ← cC, eX]
 have a : ((l.take i).map enc).flatten.length = i * k := by rw [pj hk, cP, dq b]
 rw [h1, ← a, List.drop_left]
theorem Kf {K : Value → World → Prop} (X : List (Nat × Obj)) {Y : List (Nat × Obj)} {t : TypeId} {x y : Operand} {i j : Nat} {v1 u : Value} {ti : TypeInfo} (G : ST dd F w W μ (X ++ (R ++ Y))) (h : kC e enc k v l R) (h1 : kC e enc k v1 (l.take i) R) (hk : ∀ x, (enc x).length = k) (ae : 0 < k) (aa : ∀ x, ∀ u ∈ enc x, u.oneCell' = true) (ht : P.underlying t = some (.slice e)) (hi : P.info? e = some ti) (U : ti.size = k) (I : i ≤ j) (hj : j ≤ l.length) (hu : yt k v j u) (hx : kp E x = v1) (hy : kp E y = u) (hK : ∀ W' v' R', ST dd F w W' μ (X ++ (R' ++ Y)) → kC e enc k v (Ay l i j) R' → kC e enc k v' (l.take i ++ l.drop j) R' → K v' W') : nu P E ⟨d, .call ⟨.builtin .append, #[x, y], #[t, t]⟩, ty, pos, af, g⟩ W K := by
 have s : ∀ (V : Value) (W' : World), (Builtin.append_ #[t, t] ty #[v1, u]).run P W = .ok V W' → (execOp (kp E) ⟨d, .call ⟨.builtin .append, #[x, y], #[t, t]⟩, ty, pos, af, g⟩).run P W = .ok (.value V) W' := by
  intro V W' hV
  show (do let d ← resolve (kp E) ⟨.builtin .append, #[x, y], #[t, t]⟩ ty; invoke d.target d.args : Sem Next).run P W = _
  simp [resolve, invoke, builtin, hx, hy, hV]
 obtain ⟨A, n, c, A', c', e1, rfl, h7, h8⟩ := hu
 rcases h with ⟨rfl, rfl, rfl⟩ | ⟨z, cap, m, rfl, rfl, q1, q2, q3, q4⟩
 ·cases e1
  have ai : v1 = .slice none 0 0 := by
   rcases h1 with ⟨h, _, _⟩ | ⟨_, _, _, _, h, _⟩
   ·exact h
   ·cases h
  subst ai
  refine .inl ⟨_, W, s (.slice none 0 0) W ?_, hK W _ [] G (by simpa [Ay] using kC.nil e enc k) (by simpa using kC.nil e enc k)⟩
  cases A' <;> simp [Builtin.append_, aX ht, sizeOf, typeInfo, hi, Builtin.lenOf, Builtin.firstCells, loadCells, loadCellsFrom]
 ·cases e1
  obtain ⟨g1, a, r, rfl, eR, a1, a2, a3, a4⟩ : ∃ g1 a r, v1 = .slice (some ⟨g1, 0, none⟩) (l.take i).length a ∧ [(z, Obj.cells m e (0, 0))] = [(g1, .cells r e (0, 0))] ∧ (l.take i).length ≤ a ∧ a ≤ maxLen ∧ r.size = a * k ∧ r.toList.take ((l.take i).length * k) = ((l.take i).map enc).flatten := by
   rcases h1 with ⟨_, _, h⟩ | h
   ·cases h
   ·exact h
  cases eR
  have Z : a = c := fK ae (a3.symm.trans q3)
  subst Z
  have p : (l.take i).length = i := by rw [cP]; omega
  rw [p] at a1 a4 s
  have hb := (G.box z (.cells m e (0, 0)) (by simp)).1
  by_cases ag : j < l.length
  ·obtain ⟨b, o, e2, rfl⟩ := h8 ag
   cases e2
   have L : (((l.drop j).map enc).flatten).length = (l.length - j) * k := by rw [pj hk, dT]
   have e0 : m.toList.length = a * k := by simpa using q3
   have ao : l.length * k ≤ a * k := bZ _ q1
   have an : j * k ≤ l.length * k := bZ _ hj
   have al : i * k ≤ j * k := bZ _ I
   have ak : (l.length - j) * k = l.length * k - j * k := Nat.sub_mul _ _ _
   have ab : (m.toList.take (l.length * k)).drop (j * k) = ((l.drop j).map enc).flatten := by rw [q4, Ia hk l j hj]
   have Q : ∀ q u, (((l.drop j).map enc).flatten)[q]? = some u → W.cell? (Addr.add ⟨z, 0 + j * k, none⟩ q) = some u := by
    intro q u hq
    rw [dL, gz W z (0 + j * k + q) m e (0, 0) hb, dZ]
    rw [← ab, dK] at hq
    have a8 : j * k + q < l.length * k := by
     have := (bF.1 hq).1
     rw [cP] at this
     omega
    rw [dO a8] at hq
    simpa using hq
   have T : ∀ u ∈ ((l.drop j).map enc).flatten, u.oneCell' = true := by
    intro u hu
    obtain ⟨ys, aj, ah⟩ := iq.1 hu
    obtain ⟨x, _, rfl⟩ := bG.1 aj
    exact aa x u ah
   have hr := run_append_room (P := P) W t ty e ti ht hi z i a m hb ⟨z, 0 + j * k, none⟩ (l.length - j) c' _ (by rw [U, L]) Q T (by omega) (by rw [U, L]; simp only [dl] at e0; omega)
   rw [U, L] at hr
   have hS := ST.store (A := X) (b := z) (cs := m) (t := e) (B := Y) G (m.toList.take (i * k) ++ ((l.drop j).map enc).flatten ++ m.toList.drop (i * k + (l.length - j) * k)).toArray
   have a7 : m.toList.take (i * k) = ((l.take i).map enc).flatten := a4
   have J : (m.toList.take (i * k) ++ ((l.drop j).map enc).flatten).length = (i + (l.length - j)) * k := by rw [aC, cP, L, e0, dq (by omega), cL]
   have D : (m.toList.take (i * k) ++ ((l.drop j).map enc).flatten ++ m.toList.drop (i * k + (l.length - j) * k)).length = a * k := by
    rw [aC, J, dT, e0, cL]; omega
   refine .inl ⟨_, _, s _ _ hr, hK _ _ [(z, .cells _ e (0, 0))] hS (.inr ⟨z, a, _, by rw [Cu l I hj], rfl, by rw [Cu l I hj]; exact q1, q2, by rw [dp, D], ?_⟩) (.inr ⟨z, a, _, by rw [aC, p, dT], rfl, by rw [aC, p, dT]; omega, q2, by rw [dp, D], ?_⟩)⟩
   ·rw [Cu l I hj]
    show List.take (l.length * k) (m.toList.take (i * k) ++ ((l.drop j).map enc).flatten ++ m.toList.drop (i * k + (l.length - j) * k)) = _
    have M : l.length * k = (i + (l.length - j)) * k + (j - i) * k := by rw [← cL]; congr 1; omega
    have hm : (l.length - (j - i)) * k = i * k + (l.length - j) * k := by rw [← cL]; congr 1; omega
    have O : (m.toList.drop (i * k + (l.length - j) * k)).take ((j - i) * k) = ((l.drop (l.length - (j - i))).map enc).flatten := by
     rw [← hm, ← Ia hk l _ (by omega), ← q4, gG]
     congr 1
     rw [← Nat.sub_mul]; congr 1; omega
    rw [M, eO, J, Nat.add_sub_cancel_left, dx (by rw [J]; omega), O, a7]
    simp [Ay, aK]
   ·rw [aC, p, dT]
    show List.take ((i + (l.length - j)) * k) (m.toList.take (i * k) ++ ((l.drop j).map enc).flatten ++ m.toList.drop (i * k + (l.length - j) * k)) = _
    rw [← J, gK, a7]
    simp
  ·have ad : j = l.length := by omega
   subst ad
   have a6 : Ay l i l.length = l := by
    unfold Ay
    rw [show l.length - (l.length - i) = i by omega, aI, bE, eX]
   refine .inl ⟨.slice (some ⟨z, 0, none⟩) i a, W, s _ W ?_, hK W _ _ G (by rw [a6]; exact .inr ⟨z, a, m, rfl, rfl, q1, q2, q3, q4⟩) (.inr ⟨z, a, m, by simp [p], rfl, by simpa [p] using a1, q2, q3, by simpa [p] using a4⟩)⟩
   cases A' <;> simp [Builtin.append_, aX ht, sizeOf, typeInfo, hi, Builtin.lenOf, Builtin.firstCells, loadCells, loadCellsFrom, storeCells, a1]
theorem NI {i : List α} {y : Value} {t : TypeId} {x m ih : Operand} {U s : IntKind} {a b : Int} (F : P.underlying t = some (.slice e)) (he : ∀ w, (sizeOf e).run P w = .ok k w) (q : 0 < k) (M : kC e enc k v l R) (h1 : kC e enc k y i R) (G : kp E x = y) (D : kp E m = .int U a) (A : kp E ih = .int s b) (ha : 0 ≤ a) (O : a ≤ b) (Q : b = (l.length : Int)) (o : a = (i.length : Int)) : ∃ u, yt k v a.toNat u ∧ ∀ W, mx P E ⟨d, .slice t x (some m) (some ih) none, ty, pos, af, g⟩ W u W := by
 subst o; subst Q
 have hle : i.length ≤ l.length := by omega
 rcases M with ⟨rfl, rfl, rfl⟩ | ⟨n, cap, I, rfl, rfl, Y, q2, Z, q4⟩
 ·have T : y = .slice none 0 0 ∧ i = [] := by
   rcases h1 with ⟨h, L, _⟩ | ⟨_, _, _, _, h, _⟩
   ·exact ⟨h, L⟩
   ·cases h
  obtain ⟨rfl, rfl⟩ := T
  refine ⟨.slice none 0 0, ⟨none, 0, 0, none, 0, rfl, rfl, aS _, fun h => absurd h (by simp)⟩, fun W => ?_⟩
  show (do pure (.value (← Instr.sliceAt t (kp E x) (some (kp E m)) (some (kp E ih)) none)) : Sem Next).run P W = _
  rw [G, D, A]
  simp [Instr.sliceAt, Instr.slice, Instr.sliceBounds, Instr.sliceBound, asIntOf, aX F, he W]
 ·rcases h1 with ⟨_, _, h⟩ | ⟨g1, c, z, rfl, J, a1, a2, a3, a4⟩
  ·cases h
  cases J
  have j : c = cap := fK q (a3.symm.trans Z)
  subst j
  refine ⟨.slice (some (if c = i.length then ⟨n, 0, none⟩ else (Addr.add ⟨n, 0, none⟩ (i.length * k)))) (l.length - i.length) (c - i.length), ⟨_, _, _, _, _, rfl, rfl, by simpa using hle, fun r => ⟨n, 0, rfl, ?_⟩⟩, fun W => ?_⟩
  ·simp only [dI] at r ⊢
   rw [aU (by omega)]; simp [dL]
  ·show (do pure (.value (← Instr.sliceAt t (kp E x) (some (kp E m)) (some (kp E ih)) none)) : Sem Next).run P W = _
   rw [G, D, A]
   have p : (i.length : Int) ≤ (l.length : Int) ∧ (l.length : Int) ≤ (c : Int) := ⟨by omega, by omega⟩
   simp [Instr.sliceAt, Instr.slice, Instr.sliceBounds, Instr.sliceBound, asIntOf, aX F, he W, p, hle, Y]
   split <;> rfl
theorem Ot {t : TypeId} {x c ih h : Operand} {M o p : IntKind} {a b m : Int} (y : P.underlying t = some (.slice e)) (he : ∀ w, (sizeOf e).run P w = .ok k w) (J : kC e enc k v l R) (z : kp E x = v) (s : kp E c = .int M a) (r : kp E ih = .int o b) (hm : kp E h = .int p m) (ha : 0 ≤ a) (L : a ≤ b) (O : b ≤ m) (j : m ≤ (l.length : Int)) : ∃ u, True ∧ ∀ W, mx P E ⟨d, .slice t x (some c) (some ih) (some h), ty, pos, af, g⟩ W u W := by
 obtain ⟨a, rfl⟩ : ∃ n : Nat, a = (n : Int) := ⟨a.toNat, by omega⟩
 obtain ⟨b, rfl⟩ : ∃ n : Nat, b = (n : Int) := ⟨b.toNat, by omega⟩
 obtain ⟨m, rfl⟩ : ∃ n : Nat, m = (n : Int) := ⟨m.toNat, by omega⟩
 have D : a ≤ b := by omega
 have F : b ≤ m := by omega
 rcases J with ⟨rfl, rfl, rfl⟩ | ⟨q, cap, A, rfl, rfl, Q, T, U, Y⟩
 ·have i : m = 0 := by simp at j; omega
  subst i
  have G : b = 0 := by omega
  subst G
  have I : a = 0 := by omega
  subst I
  refine ⟨.slice none 0 0, trivial, fun W => ?_⟩
  show (do pure (.value (← Instr.sliceAt t (kp E x) (some (kp E c)) (some (kp E ih)) (some (kp E h)))) : Sem Next).run P W = _
  rw [z, s, r, hm]
  simp [Instr.sliceAt, Instr.slice, Instr.sliceBounds, Instr.sliceBound, asIntOf, aX y, he W]
 ·have i : m ≤ cap := by omega
  refine ⟨.slice (if m = a then some ⟨q, 0, none⟩ else some (Addr.add ⟨q, 0, none⟩ (a * k))) (b - a) (m - a), trivial, fun W => ?_⟩
  show (do pure (.value (← Instr.sliceAt t (kp E x) (some (kp E c)) (some (kp E ih)) (some (kp E h)))) : Sem Next).run P W = _
  rw [z, s, r, hm]
  simp [Instr.sliceAt, Instr.slice, Instr.sliceBounds, Instr.sliceBound, asIntOf, aX y, he W, D, F, i]
theorem kC.Ov {g b : List α} {q : Value} {R2 : List (Nat × Obj)} (j : 0 < k) (hk : ∀ x, (enc x).length = k) (A : kC e enc k v l R) (h1 : kC e enc k q b R) (o : kC e enc k v g R2) (p : b.length ≤ g.length) : kC e enc k q (g.take b.length) R2 := by
 rcases A with ⟨rfl, rfl, rfl⟩ | ⟨z, cap, w, rfl, rfl, G, I, D, J⟩
 ·rcases h1 with ⟨rfl, rfl, _⟩ | ⟨_, _, _, _, h, _⟩
  ·rcases o with ⟨_, rfl, rfl⟩ | ⟨_, _, _, h, _⟩
   ·exact kC.nil e enc k
   ·cases h
  ·cases h
 ·rcases h1 with ⟨_, _, h⟩ | ⟨g1, a, n, rfl, y, r, a2, a3, a4⟩
  ·cases h
  cases y
  have d : a = cap := fK j (a3.symm.trans D)
  subst d
  rcases o with ⟨h, _⟩ | ⟨g2, m, c, h, rfl, E, s, t, u⟩
  ·cases h
  ·simp only [Value.slice.injEq, gI, Addr.mk.injEq] at h
   obtain ⟨⟨rfl, _, _⟩, F, rfl⟩ := h
   have i : (g.take b.length).length = b.length := by rw [cP]; omega
   refine .inr ⟨z, a, c, by rw [i], rfl, by rw [i]; exact r, s, t, ?_⟩
   rw [i, BZ hk g b.length p, ← u, fJ, dq (bZ _ p)]
end
variable {dd : Bool}
section
variable {P : Program} {fn : Func} {R : Ending → World → Prop} {E : Nat → Value} {W : World}
theorem wI {a : Tmp} {t0 : TypeId} {a0 : Addr} {v0 : Value} {b : Tmp} {v1 : Value} (d : fn.results = #[.cell a t0, .tmp b]) (c : E a = .pointer (some a0)) (i : (Instr.loadAt t0 (.pointer (some a0))).run P W = .ok v0 W) (h1 : E b = v1) (h : R (.returned (.tuple #[v0, v1])) W) : yC P fn R .ret E W :=
 ⟨.tuple #[v0, v1], fun tmps g => by
  have j : (loadVar t0 a0).run P W = .ok v0 W := by simpa [Instr.loadAt, Instr.sureAddr] using i
  simp [results, d, g, asAddr, c, j, h1], h⟩
theorem Pk {a : Tmp} {v0 : Value} {b : Tmp} {v1 : Value} {c : Tmp} {v2 : Value} (i : fn.results = #[.tmp a, .tmp b, .tmp c]) (d : E a = v0) (h1 : E b = v1) (g : E c = v2) (h : R (.returned (.tuple #[v0, v1, v2])) W) : yC P fn R .ret E W :=
 ⟨.tuple #[v0, v1, v2], fun tmps j => by
  skip
  simp [results, i, j, asAddr, d, h1, g], h⟩
end
end Go.Proofs.YtklbhegeiijbjaaGreat
namespace Go.Proofs.YtklbhegeiijbjaaGreat
open Go.RowKit
section
variable {x y : Nat × Obj} {A B C L R S : List (Nat × Obj)}
theorem Pz : (x :: A).Perm (x :: A) := .refl _
theorem Pb (h : A.Perm (x :: B)) : (y :: A).Perm (x :: y :: B) := (h.cons y).trans (.swap ..)
theorem Pr (h : A.Perm (x :: B)) : (S ++ A).Perm (x :: (S ++ B)) := (h.append_left S).trans eL
theorem Qz : (R ++ A).Perm (R ++ A) := .refl _
theorem Qb (h : A.Perm (R ++ B)) : (y :: A).Perm (R ++ (y :: B)) := (h.cons y).trans List.perm_middle.symm
theorem Qr (h : A.Perm (R ++ B)) : (S ++ A).Perm (R ++ (S ++ B)) := (h.append_left S).trans (fG S R B)
def nm (L L' : List (Nat × Obj)) : Prop := ∃ M, L.Perm (L' ++ M)
theorem Sn : nm L [] := ⟨L, .refl _⟩
theorem St : nm L L := ⟨[], by rw [bE]⟩
theorem Sb (h : L.Perm (x :: A)) (k : nm A B) : nm L (x :: B) := let ⟨M, m⟩ := k; ⟨M, h.trans (m.cons x)⟩
theorem Sr (h : L.Perm (R ++ A)) (k : nm A B) : nm L (R ++ B) := let ⟨M, m⟩ := k; ⟨M, by rw [aK]; exact h.trans (m.append_left R)⟩
theorem Kb (k : nm A B) : nm (x :: A) (x :: B) := Sb Pz k
theorem Kr (k : nm A B) : nm (R ++ A) (R ++ B) := Sr Qz k
theorem Db (k : nm A B) : nm (x :: A) B := let ⟨M, m⟩ := k; ⟨x :: M, (m.cons x).trans List.perm_middle.symm⟩
theorem Dr (k : nm A B) : nm (R ++ A) B := let ⟨M, m⟩ := k; ⟨R ++ M, (m.append_left R).trans (fG R B M)⟩
theorem nm.mem (s : nm L A) : ∀ p, p ∈ A → p ∈ L := fun p hp => let ⟨M, m⟩ := s; m.mem_iff.2 (bX _ hp)
theorem ST.kh {dd : Bool} {F : Nat → Prop} {w W : World} {μ : kL} (h : ST dd F w W μ L) (s : nm L A) : ST dd F w W μ A := let ⟨M, m⟩ := s; (h.perm m).sublist (List.sublist_append_left A M)
theorem og.kh {μ : kL} {W : World} (h : og μ L W) (s : nm L A) : og μ A W := h.sub (kH.refl _) s.mem
theorem og.qe {μ μ' : kL} {W : World} (h : og μ L W) (a : kH μ' μ) (s : nm L A) : og μ' A W := h.sub a s.mem
theorem Cn : L.Perm ([] ++ L) := .refl _
theorem Cb (h : L.Perm (x :: A)) (k : A.Perm (B ++ C)) : L.Perm ((x :: B) ++ C) := h.trans (k.cons x)
theorem Cr (h : L.Perm (R ++ A)) (k : A.Perm (B ++ C)) : L.Perm ((R ++ B) ++ C) := by rw [aK]; exact h.trans (k.append_left R)
theorem C0 (k : L.Perm (B ++ C)) : L.Perm (([] ++ B) ++ C) := k
theorem Tn : ([] ++ A).Perm A := .refl _
theorem Tb (h : (A ++ B).Perm C) : ((x :: A) ++ B).Perm (x :: C) := h.cons x
theorem Tr (h : (A ++ B).Perm C) : ((R ++ A) ++ B).Perm (R ++ C) := by rw [aK]; exact h.append_left R
theorem Nb (h : L.Perm (x :: A)) (k : A.Perm B) : L.Perm (x :: B) := h.trans (k.cons x)
theorem Nr (h : L.Perm (R ++ A)) (k : A.Perm B) : L.Perm (R ++ B) := h.trans (k.append_left R)
theorem Nz : L.Perm L := .refl _
theorem TP {R' R1 : List (Nat × Obj)} (hp : R.Perm (R' ++ R1)) : (R ++ A).Perm (R' ++ (R1 ++ A)) := by rw [← aK]; exact hp.append_right A
theorem Mh : x ∈ x :: A := .head _
theorem Mt (h : x ∈ A) : x ∈ y :: A := .tail _ h
theorem Ma (h : x ∈ A) : x ∈ R ++ A := dC _ h
theorem Ml (h : x ∈ R) : x ∈ R ++ A := bX _ h
end
section
variable {dd : Bool} {F : Nat → Prop} {w W : World} {μ : kL} {L L0 L1 Y R : List (Nat × Obj)}
theorem ST.D4 (h : ST dd lM w W μ L) (s : nm L L1) : uG dd [] L1 w W := let ⟨_, m⟩ := s; (h.perm m).SH
theorem ST.mI (h : ST dd (keys L0) w W μ L) (s : nm L L1) : uG dd L0 L1 w W := let ⟨_, m⟩ := s; (h.perm m).SK
theorem ST.xU : ∀ {R : List (Nat × Obj)} {μ : kL}, ST dd F w W μ (R ++ Y) → ∃ μ', ST dd F w W μ' Y ∧ kH μ μ' ∧ Lo F w μ μ' ∧ ∀ b o, (b, o) ∈ R → μ' b = some o
 | [], μ, h => ⟨μ, h, kH.refl _, Lo.refl, fun _ _ h => by cases h⟩
 | (g, o) :: R, μ, h => by
  have c : ST dd F w W μ ([] ++ (g, o) :: (R ++ Y)) := h
  obtain ⟨μ', d, a2, a3, a4⟩ := ST.xU (R := R) (ST.HY (A := []) c)
  refine ⟨μ', d, (ST.HE (A := []) c).trans a2, (ST.N1 (A := []) c).trans a3, fun b i a => ?_⟩
  rcases aO.1 a with a | a
  ·cases a; exact a2 _ _ (aV rfl)
  ·exact a4 b i a
theorem ST.F7 {α : Type} {e' : TypeId} {enc : α → List Value} {k : Nat} {v : Value} {l : List α} (a : ST dd F w W μ (R ++ Y)) (h : kC e' enc k v l R) (hk : ∀ x, (enc x).length = k) : ∃ μ', ST dd F w W μ' Y ∧ kH μ μ' ∧ Lo F w μ μ' ∧ Sl (Pl enc) k μ' v l := by
 obtain ⟨μ', b, a2, a3, a4⟩ := ST.xU a
 exact ⟨μ', b, a2, a3, h.sl hk a4⟩
section
variable {P : Program} {n : Nat} {Q : qX} {E : Nat → Value} {V : World} {id : Nat} {l : List Oper} {A B C : List (Nat × Obj)}
theorem lm (a : og μ A V.drew) (hm : P.follows .mixedOrders = true) (h : PX P n l.toArray Q (fun _ W => og μ A W) l.length (Array.replicate l.length false) E V.drew) : CW P n (.region id l.toArray true) Q E V := J1 _ hm h
theorem vI (i : Nat) (a : og μ A V.drew) (h1 : og μ B V.drew) (hm : P.follows .mixedOrders = true) (h : PX P n l.toArray Q (fun l W => og μ A W ∧ (l.getD i true = false → og μ B W)) l.length (Array.replicate l.length false) E V.drew) : CW P n (.region id l.toArray true) Q E V := J1 _ hm h
end
structure nN (μ : kL) (L0 : List (Nat × Obj)) (w : World) : Prop where
 H : DH L0 w
 N : (L0.map (·.1)).Nodup
 S : kH μ (uz w L0)
theorem ST.N6 (h : nN μ L0 w) : ST dd (keys L0) w w μ L0 := (ST.RT h.H h.N).lZ h.S
end
section
variable {dd : Bool} {P : Program} {E : Nat → Value} {W : World} {d : Option Nat} {ty : TypeId} {pos : String} {af : Array Edge} {g : Option (Nat × Bool)} {F : Nat → Prop} {w : World} {μ : kL} {L : List (Nat × Obj)}
theorem kJ {K : Value → World → Prop} {B : List (Nat × Obj)} {t : TypeId} {x y : Operand} (v : Value) {b off : Nat} {cs : Array Value} {T : TypeId} (a : Array Value) (c : ST dd F w W μ ((b, .cells cs T (0, 0)) :: B)) (l : kp E x = .pointer (some ⟨b, off, none⟩)) (m : kp E y = v) (i : ∀ w, (sizeOf t).run P w = .ok v.cells.size w) (h1 : ∀ u ∈ v.cells.toList, u.oneCell' = true) (k : off + v.cells.size ≤ cs.size) (j : (cs.toList.take off ++ v.cells.toList ++ cs.toList.drop (off + v.cells.size)).toArray = a) (h : ∀ W', ST dd F w W' μ ((b, .cells a T (0, 0)) :: B) → K undef W') : nu P E ⟨d, .store t x y, ty, pos, af, g⟩ W K := Qs [] v a c l m i h1 k j h
end
section
variable {dd : Bool}
variable {P : Program} {n : Nat} {Q : qX} {E : Nat → Value} {W : World} {ops : Array Oper} {rest : List Oper}
 {d : Option Nat} {ty : TypeId} {pos : String} {af : Array Edge} {g : Option (Nat × Bool)}
 {F : Nat → Prop} {w : World} {μ : kL} {L : List (Nat × Obj)}
theorem ny {K : Value → World → Prop} {α : Type} {e t : TypeId} {enc : α → List Value} {k a : Nat} {z v vs : Value} {l m r : List α} {R Y : List (Nat × Obj)} {x y : Operand} {i : TypeInfo} (b : ST dd F w W μ (R ++ Y)) (hk : ∀ x, (enc x).length = k) (j : 0 < k) (h1 : ∀ x, ∀ u ∈ enc x, u.oneCell' = true) (G : P.underlying t = some (.slice e)) (A : P.info? e = some i) (L : i.zero = some z) (o : z.cells.size = k) (n : i.size = k) (c : i.bytes = a) (I : kp E x = v) (J : kp E y = vs) (q : kC e enc k v l R) (D : Sl (Pl enc) k (hp W) vs m) (s : mZ a l m = some r) (h : ∀ W' p R', ST dd F w W' μ (R' ++ Y) → kC e enc k p r R' → K p W') : nu P E ⟨d, .call ⟨.builtin .append, #[x, y], #[t, t]⟩, ty, pos, af, g⟩ W K :=
 JB [] b hk j h1 G A L o n c I J q D s h
end
section
variable {dd : Bool}
variable {P : Program} {E : Nat → Value} {W : World} {d : Option Nat} {ty : TypeId} {pos : String} {af : Array Edge} {g : Option (Nat × Bool)}
 {F : Nat → Prop} {w : World} {μ : kL} {L : List (Nat × Obj)}
theorem LV {K : Value → World → Prop} {α : Type} {e : TypeId} {enc : α → List Value} {k : Nat} {l : List α} {f : FuncId} {fv : Operand} {ax : Array Operand} {ats : Array TypeId} {caps : Array Value} {args : List Value} (Y : List (Nat × Obj)) (a : ST dd F w W μ Y) (c : kp E fv = .func (.func f) #[] caps) (he : ∀ args w, (callFunc f args).run P w = .ok (.enter f args) w) (ha : ax.map (kp E) ++ caps = args.toArray) (b : ma dd P f args W e enc k l) (h : ∀ W' v μ' R, ST dd F w W' μ' (R ++ Y) → kH μ μ' → Lo F w μ μ' → kC e enc k v l R → K v W') : nu P E ⟨d, .call ⟨.value fv, ax, ats⟩, ty, pos, af, g⟩ W K :=
 Mf [] Y a c he ha b h
end
section
variable {dd : Bool}
variable {P : Program} {E : Nat → Value} {W : World} {d : Option Nat} {ty : TypeId} {pos : String} {af : Array Edge} {g : Option (Nat × Bool)}
 {F : Nat → Prop} {w : World} {μ : kL} {L : List (Nat × Obj)} {α : Type} {e' : TypeId} {enc : α → List Value} {k : Nat} {v : Value} {l : List α} {R : List (Nat × Obj)}
theorem vN {K : Value → World → Prop} {Y : List (Nat × Obj)} {t : TypeId} {x y : Operand} {p u : Value} {i : Nat} {x0 x1 : α} (a : ST dd F w W μ (R ++ Y)) (h : kC e' enc k v l R) (hk : ∀ x, (enc x).length = k) (h1 : ∀ x, ∀ u ∈ enc x, u.oneCell' = true) (m : kp E x = p) (n : kp E y = u) (hu : u.cells = (enc x1).toArray) (hp : AE R k p i) (j : l[i]? = some x0) (c : ∀ w, (sizeOf t).run P w = .ok k w) (b : ∀ W' R', ST dd F w W' μ (R' ++ Y) → kC e' enc k v (l.set i x1) R' → K undef W') : nu P E ⟨d, .store t x y, ty, pos, af, g⟩ W K :=
 Mn [] a h hk h1 m n hu hp j c b
end
section
variable {dd : Bool}
variable {P : Program} {W : World} {κ : Type} {kt : TypeId} {kenc : κ → Value} {beq : κ → κ → Bool}
variable {β : Type} {vf : β → Value} {E : Nat → Value} {d : Option Nat} {ty : TypeId} {pos : String} {af : Array Edge} {g : Option (Nat × Bool)} {F : Nat → Prop} {w : World} {μ : kL} {L : List (Nat × Obj)}
theorem FH {c : Value → World → Prop} {Y R : List (Nat × Obj)} {t e : TypeId} {m x y : Operand} {b : Value} {l : List (κ × β)} {k : κ} {v : β} (K : pb P kt kenc beq) (j : P.underlying t = some (.map kt e)) (a : ST dd F w W μ (R ++ Y)) (h : lX kenc vf b l R) (hm : kp E m = b) (n : kp E x = kenc k) (o : kp E y = vf v) (i : ∀ W' R', ST dd F w W' μ (R' ++ Y) → lX kenc vf b (nR beq l k v) R' → c undef W') : nu P E ⟨d, .mapUpdate t m x y, ty, pos, af, g⟩ W c :=
 zY [] K j a h hm n o i
end
section
variable {dd : Bool}
variable {P : Program} {E : Nat → Value} {W : World} {d : Option Nat} {ty : TypeId} {pos : String} {af : Array Edge} {g : Option (Nat × Bool)}
 {F : Nat → Prop} {w : World} {μ : kL} {L : List (Nat × Obj)} {α : Type} {e' : TypeId} {enc : α → List Value} {k : Nat} {v : Value} {l : List α} {R : List (Nat × Obj)}
theorem ve {K : Value → World → Prop} (z : α) {Y : List (Nat × Obj)} {t e : TypeId} {x : Operand} {u b : Value} {i : Nat} (a : ST dd F w W μ (R ++ Y)) (h : kC e' enc k v l R) (hk : ∀ x, (enc x).length = k) (h1 : ∀ x, ∀ u ∈ enc x, u.oneCell' = true) (m : P.underlying t = some (.slice e)) (o : ∀ w, (zeroValue e).run P w = .ok b w) (hu : yt k v i u) (j : b.cells = (enc z).toArray) (n : kp E x = u) (c : ∀ W' R', ST dd F w W' μ (R' ++ Y) → kC e' enc k v (nD l i z) R' → K (.tuple #[]) W') : nu P E ⟨d, .call ⟨.builtin .clear, #[x], #[t]⟩, ty, pos, af, g⟩ W K :=
 KO z [] a h hk h1 m o hu j n c
end
section
variable {dd : Bool}
variable {κ γ : Type} {Q : Value → γ → List (Nat × Obj) → Prop} {beq : κ → κ → Bool} {kenc : κ → Value}
variable {P : Program} {W : World} {kt : TypeId} {E : Nat → Value} {d : Option Nat} {ty : TypeId} {pos : String} {af : Array Edge} {g : Option (Nat × Bool)} {F : Nat → Prop} {w : World} {μ : kL} {L : List (Nat × Obj)}
variable {κ2 β : Type} {kenc2 : κ2 → Value} {vf : β → Value} {beq2 : κ2 → κ2 → Bool} {kt2 : TypeId}
theorem MY {c : Value → World → Prop} {Y R : List (Nat × Obj)} {t e : TypeId} {m x y : Operand} {j : Value} {b : List (κ × Value)} {l i : List (κ × List (κ2 × β))} {k : κ} {k2 : κ2} {v : β} (hk : ∀ {x y : κ}, beq x y = true → x = y) (K : pb P kt2 kenc2 beq2) (p : P.underlying t = some (.map kt2 e)) (a : ST dd F w W μ (R ++ Y)) (h : ng kenc (lX kenc2 vf) j b l R) (hm : kp E m = rL beq b k (.map none)) (q : kp E x = kenc2 k2) (r : kp E y = vf v) (o : F8 beq beq2 l k k2 v = some i) (n : ∀ W' R', ST dd F w W' μ (R' ++ Y) → ng kenc (lX kenc2 vf) j b i R' → c undef W') : nu P E ⟨d, .mapUpdate t m x y, ty, pos, af, g⟩ W c :=
 Od [] hk K p a h hm q r o n
end
section
variable {dd : Bool}
variable {κ γ : Type} {Q : Value → γ → List (Nat × Obj) → Prop} {beq : κ → κ → Bool} {kenc : κ → Value}
variable {P : Program} {W : World} {kt : TypeId} {E : Nat → Value} {d : Option Nat} {ty : TypeId} {pos : String} {af : Array Edge} {g : Option (Nat × Bool)} {F : Nat → Prop} {w : World} {μ : kL} {L : List (Nat × Obj)}
variable {κ2 β : Type} {kenc2 : κ2 → Value} {vf : β → Value} {beq2 : κ2 → κ2 → Bool} {kt2 : TypeId}
theorem On {c : Value → World → Prop} {Y R R2 : List (Nat × Obj)} {t e : TypeId} {m x y : Operand} {b : Value} {j : List (κ × Value)} {l i : List (κ × γ)} {k : κ} {u : Value} {z : γ} (K : pb P kt kenc beq) (q : P.underlying t = some (.map kt e)) (a : ST dd F w W μ (R ++ (R2 ++ Y))) (h : ng kenc Q b j l R) (hm : kp E m = b) (r : kp E x = kenc k) (s : kp E y = u) (p : Q u z R2) (o : Gv beq l k z = some i) (n : ∀ W' R', ST dd F w W' μ (R' ++ Y) → ng kenc Q b (nR beq j k u) i R' → c undef W') : nu P E ⟨d, .mapUpdate t m x y, ty, pos, af, g⟩ W c :=
 Nd [] K q a h hm r s p o n
end
section
variable {dd : Bool}
variable {κ γ : Type} {Q : Value → γ → List (Nat × Obj) → Prop} {beq : κ → κ → Bool} {kenc : κ → Value}
variable {P : Program} {W : World} {kt : TypeId} {E : Nat → Value} {d : Option Nat} {ty : TypeId} {pos : String} {af : Array Edge} {g : Option (Nat × Bool)} {F : Nat → Prop} {w : World} {μ : kL} {L : List (Nat × Obj)}
theorem Rf {c : Value → World → Prop} {Y R R1 : List (Nat × Obj)} {t e : TypeId} {m x y : Operand} {b : Value} {i : List (κ × Value)} {l : List (κ × γ)} {k : κ} {u : Value} {z : γ} (K : pb P kt kenc beq) (o : P.underlying t = some (.map kt e)) (a : ST dd F w W μ (R ++ (R1 ++ Y))) (h : MJ beq kenc Q b i l k R) (hm : kp E m = b) (p : kp E x = kenc k) (q : kp E y = u) (n : Q u z R1) (j : ∀ W' R', ST dd F w W' μ (R' ++ Y) → ng kenc Q b (nR beq i k u) (nR beq l k z) R' → c undef W') : nu P E ⟨d, .mapUpdate t m x y, ty, pos, af, g⟩ W c :=
 Sc [] K o a h hm p q n j
end
section
variable {dd : Bool}
variable {κ γ : Type} {Q : Value → γ → List (Nat × Obj) → Prop} {beq : κ → κ → Bool} {kenc : κ → Value}
variable {P : Program} {W : World} {kt : TypeId} {E : Nat → Value} {d : Option Nat} {ty : TypeId} {pos : String} {af : Array Edge} {g : Option (Nat × Bool)} {F : Nat → Prop} {w : World} {μ : kL} {L : List (Nat × Obj)}
theorem Mo {i : Value → World → Prop} {Y R : List (Nat × Obj)} {t e : TypeId} {m x : Operand} {c z : Value} {x0 : γ} {q : List (κ × Value)} {l : List (κ × γ)} {k : κ} (hk : ∀ {x y : κ}, beq x y = true ↔ x = y) (K : pb P kt kenc beq) (n : P.underlying t = some (.map kt e)) (p : ∀ w, (zeroValue e).run P w = .ok z w) (b : Q z x0 []) (a : ST dd F w W μ (R ++ Y)) (h : ng kenc Q c q l R) (hm : kp E m = c) (o : kp E x = kenc k) (j : ∀ W' v st R' R1, ST dd F w W' μ (R' ++ (R1 ++ Y)) → Q v ((lU beq l k).getD x0) R1 → I4 beq kenc Q c l k st R' → i (.tuple #[v, .int .i64 (st : Nat)]) W') : nu P E ⟨d, .mapEntry t m x, ty, pos, af, g⟩ W i :=
 My [] hk K n p b a h hm o j
end
section
variable {dd : Bool}
variable {κ γ : Type} {Q : Value → γ → List (Nat × Obj) → Prop} {beq : κ → κ → Bool} {kenc : κ → Value}
variable {P : Program} {W : World} {kt : TypeId} {E : Nat → Value} {d : Option Nat} {ty : TypeId} {pos : String} {af : Array Edge} {g : Option (Nat × Bool)} {F : Nat → Prop} {w : World} {μ : kL} {L : List (Nat × Obj)}
theorem Ks {i : Value → World → Prop} {Y R R1 : List (Nat × Obj)} {t e : TypeId} {m s y : Operand} {c u : Value} {z : γ} {l : List (κ × γ)} {k : κ} {st : Nat} (hk : ∀ {x y : κ}, beq x y = true ↔ x = y) (K : pb P kt kenc beq) (a : ST dd F w W μ (R ++ (R1 ++ Y))) (h : I4 beq kenc Q c l k st R) (hm : kp E m = c) (o : kp E s = .int .i64 (st : Nat)) (p : kp E y = u) (n : Q u z R1) (j : ∀ W' b R', ST dd F w W' μ (R' ++ Y) → ng kenc Q c b (nR beq l k z) R' → i undef W') : nu P E ⟨d, .entryStore t m s y, ty, pos, af, g⟩ W i :=
 Kt (e := e) [] hk K a h hm o p n j
end
section
variable {dd : Bool}
variable {α : Type} {e : TypeId} {enc : α → List Value} {k : Nat} {v : Value} {l : List α} {R : List (Nat × Obj)}
variable {P : Program} {W : World} {E : Nat → Value} {d : Option Nat} {ty : TypeId} {pos : String} {af : Array Edge} {g : Option (Nat × Bool)} {F : Nat → Prop} {w : World} {μ : kL} {L : List (Nat × Obj)}
theorem KM {K : Value → World → Prop} {t : TypeId} {a : Nat} {z vs : Value} {m r : List α} {Y : List (Nat × Obj)} {x y : Operand} {i : TypeInfo} (b : ST dd F w W μ (R ++ Y)) (hk : ∀ x, (enc x).length = k) (j : 0 < k) (h1 : ∀ x, ∀ u ∈ enc x, u.oneCell' = true) (G : P.underlying t = some (.slice e)) (A : P.info? e = some i) (L : i.zero = some z) (o : z.cells.size = k) (n : i.size = k) (c : i.bytes = a) (I : kp E x = v) (J : kp E y = vs) (q : pT e enc k v l R) (D : Sl (Pl enc) k (hp W) vs m) (s : mZ a l m = some r) (h : ∀ W' p R', ST dd F w W' μ (R' ++ Y) → pT e enc k p r R' → K p W') : nu P E ⟨d, .call ⟨.builtin .append, #[x, y], #[t, t]⟩, ty, pos, af, g⟩ W K :=
 KK [] b hk j h1 G A L o n c I J q D s h
end
section
variable {P : Program} {n : Nat} {Q : qX} {E : Nat → Value} {W : World} {ops : Array Oper} {rest : List Oper}
variable {dd : Bool} {α : Type} {enc : α → List Value} {k : Nat} {μ : kL} {v : Value}
variable {d : Option Nat} {ty : TypeId} {pos : String} {af : Array Edge} {g : Option (Nat × Bool)} {F : Nat → Prop} {w : World} {L : List (Nat × Obj)}
theorem Jz {K : Value → World → Prop} {α : Type} {e t o : TypeId} {enc : α → List Value} {k a : Nat} {q : Value} {n : Int} {z : α} {r : List α} {Y : List (Nat × Obj)} {x y : Operand} {i : TypeInfo} (b : ST dd F w W μ Y) (hk : ∀ x, (enc x).length = k) (j : 0 < k) (A : P.underlying t = some (.slice e)) (m : P.underlying o = some (.int .i64)) (v : P.info? e = some i) (I : i.zero = some q) (l : i.size = k) (c : i.bytes = a) (u : q.cells = (enc z).toArray) (D : kp E x = .slice none 0 0) (G : kp E y = .int .i64 n) (s : Hw a z n = some r) (h : ∀ W' p R', ST dd F w W' μ (R' ++ Y) → kC e enc k p r R' → K p W') : nu P E ⟨d, .call ⟨.builtin .append, #[x, y], #[t, o]⟩, ty, pos, af, g⟩ W K :=
 Js [] b hk j A m v I l c u D G s h
end
section
variable {P : Program} {E : Nat → Value} {W : World} {d : Option Nat} {ty : TypeId} {pos : String} {af : Array Edge} {g : Option (Nat × Bool)}
 {F : Nat → Prop} {w : World} {μ : kL} {L : List (Nat × Obj)} {α : Type} {e : TypeId} {enc : α → List Value} {k : Nat} {v : Value} {l : List α} {R : List (Nat × Obj)} {dd : Bool}
theorem JP {K : Value → World → Prop} {Y : List (Nat × Obj)} {t : TypeId} {x y : Operand} {i j : Nat} {v1 u : Value} {o : TypeInfo} (b : ST dd F w W μ (R ++ Y)) (h : kC e enc k v l R) (h1 : kC e enc k v1 (l.take i) R) (hk : ∀ x, (enc x).length = k) (m : 0 < k) (a : ∀ x, ∀ u ∈ enc x, u.oneCell' = true) (z : P.underlying t = some (.slice e)) (r : P.info? e = some o) (n : o.size = k) (c : i ≤ j) (s : j ≤ l.length) (hu : yt k v j u) (A : kp E x = v1) (D : kp E y = u) (q : ∀ W' p R', ST dd F w W' μ (R' ++ Y) → kC e enc k v (Ay l i j) R' → kC e enc k p (l.take i ++ l.drop j) R' → K p W') : nu P E ⟨d, .call ⟨.builtin .append, #[x, y], #[t, t]⟩, ty, pos, af, g⟩ W K :=
 Kf [] b h h1 hk m a z r n c s hu A D q
end
section
variable {P : Program} {n : Nat} {Q : qX} {E : Nat → Value} {W : World} {ops : Array Oper} {rest : List Oper}
variable {d j t : Nat} {want : Bool} {v : Value} {ins : Go.Op} {ty : TypeId} {pos : String} {af : Array Edge} {A : Value → Prop}
theorem V (b : mx P E ⟨some d, ins, ty, pos, af, none⟩ W v W) (h : LW P n ops Q rest (oM E d v) W) (a : d < n := by decide) : LW P n ops Q (⟨some d, ins, ty, pos, af, none⟩ :: rest) E W := HQ (.inl rfl) rfl a b h
theorem VE (h : nu P E ⟨some d, ins, ty, pos, af, none⟩ W fun v W' => LW P n ops Q rest (oM E d v) W') (a : d < n := by decide) : LW P n ops Q (⟨some d, ins, ty, pos, af, none⟩ :: rest) E W := Ro (.inl rfl) rfl a h
theorem VO (h : nu P E ⟨none, ins, ty, pos, af, none⟩ W fun _ W' => LW P n ops Q rest E W') : LW P n ops Q (⟨none, ins, ty, pos, af, none⟩ :: rest) E W := SN (.inl rfl) rfl h
theorem VQ (b : ∃ p, A p ∧ ∀ W, mx P E ⟨some d, ins, ty, pos, af, none⟩ W p W) (h : ∀ p, A p → LW P n ops Q rest (oM E d p) W) (a : d < n := by decide) : LW P n ops Q (⟨some d, ins, ty, pos, af, none⟩ :: rest) E W := Sp (.inl rfl) rfl a b h
theorem Vg (b : (ops[j]?).bind (·.dst) = some t) (a : E t = .bool want) (g : mx P E ⟨some d, ins, ty, pos, af, some (j, want)⟩ W v W) (h : LW P n ops Q rest (oM E d v) W) (i : t < n := by decide) (c : d < n := by decide) : LW P n ops Q (⟨some d, ins, ty, pos, af, some (j, want)⟩ :: rest) E W := HQ (.inr ⟨j, want, t, rfl, b, i, a⟩) rfl c g h
theorem N3 (b : (ops[j]?).bind (·.dst) = some t) (a : E t = .bool want) (h : nu P E ⟨some d, ins, ty, pos, af, some (j, want)⟩ W fun v W' => LW P n ops Q rest (oM E d v) W') (g : t < n := by decide) (c : d < n := by decide) : LW P n ops Q (⟨some d, ins, ty, pos, af, some (j, want)⟩ :: rest) E W := Ro (.inr ⟨j, want, t, rfl, b, g, a⟩) rfl c h
theorem TZ (b : (ops[j]?).bind (·.dst) = some t) (a : E t = .bool want) (g : ∃ p, A p ∧ ∀ W, mx P E ⟨some d, ins, ty, pos, af, some (j, want)⟩ W p W) (h : ∀ p, A p → LW P n ops Q rest (oM E d p) W) (i : t < n := by decide) (c : d < n := by decide) : LW P n ops Q (⟨some d, ins, ty, pos, af, some (j, want)⟩ :: rest) E W := Sp (.inr ⟨j, want, t, rfl, b, i, a⟩) rfl c g h
theorem Vn (b : (ops[j]?).bind (·.dst) = some t) (a : E t = .bool (!want)) (h : LW P n ops Q rest (oM E d undef) W) (g : t < n := by decide) (c : d < n := by decide) : LW P n ops Q (⟨some d, ins, ty, pos, af, some (j, want)⟩ :: rest) E W := SB rfl c rfl b g a h
theorem Vu (b : (ops[j]?).bind (·.dst) = some t) (a : E t = undef) (h : LW P n ops Q rest (oM E d undef) W) (g : t < n := by decide) (c : d < n := by decide) : LW P n ops Q (⟨some d, ins, ty, pos, af, some (j, want)⟩ :: rest) E W := RM rfl c rfl b g a h
end
section
variable {P : Program} {n : Nat} {Q : qX} {E : Nat → Value} {W : World} {ops : Array Oper} {S : Array Bool → World → Prop} {fuel : Nat} {listed : Array Bool} {μ : kL} {B : List (Nat × Obj)}
variable {d j t : Nat} {want : Bool} {v : Value} {ins : Go.Op} {ty : TypeId} {pos : String} {af : Array Edge} {A : Value → Prop}
theorem X (i : Nat) (b : ops[i]? = some ⟨some d, ins, ty, pos, af, none⟩) (a : S (listed.setIfInBounds i true) W) (g : ∀ {W}, mx P E ⟨some d, ins, ty, pos, af, none⟩ W v W) (h : PX P n ops Q S fuel (listed.setIfInBounds i true) (oM E d v) W) (hk : D6 ops listed i = true := by kernel_rfl) (hm : ∀ l w, S (l.setIfInBounds i true) w → S l w := by exact fun _ _ h => h) (c : d < n := by decide) : PX P n ops Q S (fuel + 1) listed E W := lJ i b hk (.inl rfl) rfl c hm a (fun _ _ _ _ => g) h
theorem XH (i : Nat) (b : ops[i]? = some ⟨some d, ins, ty, pos, af, none⟩) (a : og μ B W) (g : ∀ W, og μ B W → mx P E ⟨some d, ins, ty, pos, af, none⟩ W v W) (h : PX P n ops Q (fun _ W => og μ B W) fuel (listed.setIfInBounds i true) (oM E d v) W) (hk : D6 ops listed i = true := by kernel_rfl) (c : d < n := by decide) : PX P n ops Q (fun _ W => og μ B W) (fuel + 1) listed E W := lJ i b hk (.inl rfl) rfl c (fun _ _ h => h) a (fun _ W _ h => g W h) h
theorem XQ (i : Nat) (b : ops[i]? = some ⟨some d, ins, ty, pos, af, none⟩) (a : S (listed.setIfInBounds i true) W) (g : ∃ p, A p ∧ ∀ W, mx P E ⟨some d, ins, ty, pos, af, none⟩ W p W) (h : ∀ p, A p → PX P n ops Q S fuel (listed.setIfInBounds i true) (oM E d p) W) (hk : D6 ops listed i = true := by kernel_rfl) (hm : ∀ l w, S (l.setIfInBounds i true) w → S l w := by exact fun _ _ h => h) (c : d < n := by decide) : PX P n ops Q S (fuel + 1) listed E W := uE i b hk (.inl rfl) rfl c hm a g h
theorem XE (i : Nat) (a : ops[i]? = some ⟨some d, ins, ty, pos, af, none⟩) (h : nu P E ⟨some d, ins, ty, pos, af, none⟩ W fun v W' => S (listed.setIfInBounds i true) W' ∧ PX P n ops Q S fuel (listed.setIfInBounds i true) (oM E d v) W') (c : Region.ready .any ops listed = [i] := by kernel_rfl) (b : d < n := by decide) : PX P n ops Q S (fuel + 1) listed E W := Rw i a c (.inl rfl) rfl b h
theorem XO (i : Nat) (a : ops[i]? = some ⟨none, ins, ty, pos, af, none⟩) (h : nu P E ⟨none, ins, ty, pos, af, none⟩ W fun _ W' => S (listed.setIfInBounds i true) W' ∧ PX P n ops Q S fuel (listed.setIfInBounds i true) E W') (b : Region.ready .any ops listed = [i] := by kernel_rfl) : PX P n ops Q S (fuel + 1) listed E W := SF i a b (.inl rfl) rfl h
theorem Xg (i : Nat) (c : ops[i]? = some ⟨some d, ins, ty, pos, af, some (j, want)⟩) (g : (ops[j]?).bind (·.dst) = some t) (a : E t = .bool want) (b : S (listed.setIfInBounds i true) W) (o : ∀ {W}, mx P E ⟨some d, ins, ty, pos, af, some (j, want)⟩ W v W) (h : PX P n ops Q S fuel (listed.setIfInBounds i true) (oM E d v) W) (hk : D6 ops listed i = true := by kernel_rfl) (hm : ∀ l w, S (l.setIfInBounds i true) w → S l w := by exact fun _ _ h => h) (m : t < n := by decide) (k : d < n := by decide) : PX P n ops Q S (fuel + 1) listed E W := lJ i c hk (.inr ⟨j, want, t, rfl, g, m, a⟩) rfl k hm b (fun _ _ _ _ => o) h
theorem xf (i : Nat) (c : ops[i]? = some ⟨some d, ins, ty, pos, af, some (j, want)⟩) (g : (ops[j]?).bind (·.dst) = some t) (a : E t = .bool want) (b : og μ B W) (m : ∀ W, og μ B W → mx P E ⟨some d, ins, ty, pos, af, some (j, want)⟩ W v W) (h : PX P n ops Q (fun _ W => og μ B W) fuel (listed.setIfInBounds i true) (oM E d v) W) (hk : D6 ops listed i = true := by kernel_rfl) (l : t < n := by decide) (k : d < n := by decide) : PX P n ops Q (fun _ W => og μ B W) (fuel + 1) listed E W := lJ i c hk (.inr ⟨j, want, t, rfl, g, l, a⟩) rfl k (fun _ _ h => h) b (fun _ W _ h => m W h) h
theorem Iu (i : Nat) (b : ops[i]? = some ⟨some d, ins, ty, pos, af, some (j, want)⟩) (c : (ops[j]?).bind (·.dst) = some t) (a : E t = .bool want) (h : nu P E ⟨some d, ins, ty, pos, af, some (j, want)⟩ W fun v W' => S (listed.setIfInBounds i true) W' ∧ PX P n ops Q S fuel (listed.setIfInBounds i true) (oM E d v) W') (k : Region.ready .any ops listed = [i] := by kernel_rfl) (l : t < n := by decide) (g : d < n := by decide) : PX P n ops Q S (fuel + 1) listed E W := Rw i b k (.inr ⟨j, want, t, rfl, c, l, a⟩) rfl g h
theorem Xn (i : Nat) (c : ops[i]? = some ⟨some d, ins, ty, pos, af, some (j, want)⟩) (g : (ops[j]?).bind (·.dst) = some t) (a : E t = .bool (!want)) (b : S (listed.setIfInBounds i true) W) (h : PX P n ops Q S fuel (listed.setIfInBounds i true) (oM E d undef) W) (hk : D6 ops listed i = true := by kernel_rfl) (hm : ∀ l w, S (l.setIfInBounds i true) w → S l w := by exact fun _ _ h => h) (m : t < n := by decide) (k : d < n := by decide) : PX P n ops Q S (fuel + 1) listed E W := SX i c hk rfl g m a rfl k hm b h
end
section
variable {α β γ : Type}
inductive pn (Q : α → β → Prop) : List α → List β → Prop
 | nil : pn Q [] []
 | cons {a : α} {b : β} {l : List α} {m : List β} : Q a b → pn Q l m → pn Q (a :: l) (b :: m)
namespace pn
variable {Q Q' : α → β → Prop}
theorem length {l : List α} {m : List β} (h : pn Q l m) : l.length = m.length := by
 induction h with
 | nil => rfl
 | cons _ _ ih => simp [ih]
theorem imp {l : List α} {m : List β} (h : pn Q l m) (c : ∀ a b, Q a b → Q' a b) : pn Q' l m := by
 induction h with
 | nil => exact .nil
 | cons h1 _ ih => exact .cons (c _ _ h1) ih
theorem get {l : List α} {m : List β} (h : pn Q l m) : ∀ {i : Nat} {b : β}, m[i]? = some b → ∃ a, l[i]? = some a ∧ Q a b := by
 induction h with
 | nil => intro i b c; simp at c
 | cons h1 _ ih =>
  intro i b c
  cases i with
  | zero => simp at c; subst c; exact ⟨_, rfl, h1⟩
  | succ i => simpa using ih (by simpa using c)
theorem append {l a : List α} {m b : List β} (h : pn Q l m) (c : pn Q a b) : pn Q (l ++ a) (m ++ b) := by
 induction h with
 | nil => exact c
 | cons h1 _ ih => exact .cons h1 ih
theorem set {l : List α} {m : List β} (h : pn Q l m) {a : α} {b : β} (d : Q a b) : ∀ i : Nat, pn Q (l.set i a) (m.set i b) := by
 induction h with
 | nil => intro i; exact .nil
 | cons h1 c ih =>
  intro i
  cases i with
  | zero => exact .cons d c
  | succ i => exact .cons h1 (ih i)
theorem take {l : List α} {m : List β} (h : pn Q l m) : ∀ i : Nat, pn Q (l.take i) (m.take i) := by
 induction h with
 | nil => intro i; simp; exact .nil
 | cons h1 _ ih =>
  intro i
  cases i with
  | zero => exact .nil
  | succ i => exact .cons h1 (ih i)
theorem drop {l : List α} {m : List β} (h : pn Q l m) : ∀ i : Nat, pn Q (l.drop i) (m.drop i) := by
 induction h with
 | nil => intro i; simp; exact .nil
 | cons h1 a ih =>
  intro i
  cases i with
  | zero => exact .cons h1 a
  | succ i => exact ih i
end pn
theorem Cz {P : Nat → β → α → Prop} : ∀ {m : List β} (o : Nat), (∀ (i : Nat) (b : β), m[i]? = some b → ∃ a, P (o + i) b a) → ∃ l : List α, l.length = m.length ∧ ∀ (i : Nat) (b : β), m[i]? = some b → ∃ a, l[i]? = some a ∧ P (o + i) b a
 | [], _, _ => ⟨[], rfl, fun i b h => by simp at h⟩
 | b :: m, o, h => by
  obtain ⟨a, ha⟩ := h 0 b rfl
  obtain ⟨l, h1, g⟩ := Cz (m := m) (o + 1) (fun i b j => by
   obtain ⟨a, ha⟩ := h (i + 1) b (by simpa using j)
   exact ⟨a, by rw [show o + 1 + i = o + (i + 1) by omega]; exact ha⟩)
  refine ⟨a :: l, by simp [h1], fun i c d => ?_⟩
  cases i with
  | zero => simp at d; subst d; exact ⟨a, rfl, ha⟩
  | succ i =>
   obtain ⟨x, k, hp⟩ := g i c (by simpa using d)
   exact ⟨x, by simpa using k, by rw [show o + (i + 1) = o + 1 + i by omega]; exact hp⟩
theorem pn.Oh {Q : α → β → Prop} : ∀ {l : List α} {m : List β}, l.length = m.length → (∀ (i : Nat) (a : α) (b : β), l[i]? = some a → m[i]? = some b → Q a b) → pn Q l m
 | [], [], _, _ => .nil
 | [], _ :: _, h, _ => by cases h
 | _ :: _, [], h, _ => by cases h
 | a :: l, b :: m, h, c => .cons (c 0 a b rfl rfl) (pn.Oh (by simpa using h) (fun i x y d g => c (i + 1) x y (by simpa using d) (by simpa using g)))
end
structure Deep {β : Type} (R : pW β) (k : Nat) : Prop where
 mono : GP R
 len : ∀ {μ ys x}, R μ ys x → ys.length = k
 one : ∀ {μ ys x}, R μ ys x → ∀ u ∈ ys, u.oneCell' = true
abbrev sC (k : Nat) := {ys : List Value // ys.length = k ∧ ∀ u ∈ ys, u.oneCell' = true}
def uW {k : Nat} (c : sC k) : List Value := c.1
theorem zA {k : Nat} (x : sC k) : (uW x).length = k := x.2.1
theorem ON {k : Nat} (x : sC k) : ∀ u ∈ uW x, u.oneCell' = true := x.2.2
theorem Sl.AP {α : Type} {R : pW α} {k : Nat} {μ : kL} {v : Value} {l : List α} (h : Sl R k μ v l) : v.oneCell' = true := by
 obtain ⟨A, c, rfl, _⟩ := h; rfl
section
variable {β : Type} {Rl : pW β} {k : Nat} {μ μ' : kL} {v : Value} {l : List β}
def Deep.cell (a : Deep Rl k) {ys : List Value} {x : β} (h : Rl μ ys x) : sC k := ⟨ys, a.len h, a.one h⟩
theorem Sl.raw (w : Deep Rl k) (h : Sl Rl k μ v l) : ∃ cl : List (sC k), Sl (Pl uW) k μ v cl ∧ pn (fun c x => Rl μ c.1 x) cl l := by
 obtain ⟨A, c, rfl, h1, r, t⟩ := h
 cases l with
 | nil => exact ⟨[], ⟨A, c, rfl, h1, r, fun h => absurd h (by simp)⟩, .nil⟩
 | cons x0 l =>
  obtain ⟨b, off, cs, T, fr, rfl, z, u⟩ := t (by simp)
  obtain ⟨cl, o, q⟩ := Cz (P := fun i x (c : sC k) => Rl μ c.1 x ∧ ∀ j y, c.1[j]? = some y → cs[off + i * k + j]? = some y) (m := x0 :: l) 0 (fun i x p => by
   obtain ⟨ys, _, d, g⟩ := u i x p
   exact ⟨w.cell d, d, by rw [dZ]; exact g⟩)
  refine ⟨cl, ⟨_, c, by rw [o], by omega, r, fun _ => ⟨b, off, cs, T, fr, rfl, z, fun i c n => ?_⟩⟩, pn.Oh o (fun i c x n p => ?_)⟩
  ·have D : i < (x0 :: l).length := by rw [← o]; exact (bF.1 n).1
   obtain ⟨s, a, _, g⟩ := q i _ (cF D)
   rw [n] at a; cases a
   exact ⟨c.1, c.2.1, rfl, by rw [dZ] at g; exact g⟩
  ·obtain ⟨s, a, d, _⟩ := q i x p
   rw [n] at a; cases a
   exact d
theorem Sl.Nq {cl : List (sC k)} (h : Sl (Pl uW) k μ v cl) (s : kH μ μ') (ha : pn (fun c x => Rl μ' c.1 x) cl l) : Sl Rl k μ' v l := by
 obtain ⟨A, c, rfl, h1, m, n⟩ := h
 have a := ha.length
 refine ⟨A, c, by rw [a], by omega, m, fun u => ?_⟩
 obtain ⟨b, off, cs, T, fr, rfl, p, o⟩ := n (by omega)
 refine ⟨b, off, cs, T, fr, rfl, s _ _ p, fun i x t => ?_⟩
 obtain ⟨c, q, r⟩ := ha.get t
 obtain ⟨ys, d, g, j⟩ := o i c q
 cases g
 exact ⟨uW c, d, r, j⟩
def Dc (Rl : pW β) (k : Nat) (μ : kL) (W : World) (v : Value) (l : List β) : Prop := ∃ cl : List (sC k), Sl (Pl uW) k (hp W) v cl ∧ pn (fun c x => Rl μ c.1 x) cl l
theorem Dc.sl (b : Deep Rl k) {W : World} (h : Sl Rl k μ v l) (c : kH μ (hp W)) : Dc Rl k μ W v l := by
 obtain ⟨cl, h1, a⟩ := h.raw b
 exact ⟨cl, h1.mono (Pl.mono _) c, a⟩
theorem Sl.OO {b m : Nat} {cl : List (sC k)} {cs : Array Value} {e : TypeId} (hm : cl.length = m) (a : m ≤ maxLen) (d : cs.toList = (cl.map uW).flatten) (c : μ b = some (.cells cs e (0, 0))) : Sl (Pl uW) k μ (.slice (some ⟨b, 0, none⟩) m m) cl := by
 subst hm
 refine ⟨_, _, rfl, aS _, a, fun _ => ⟨b, 0, _, _, _, rfl, c, fun i x g => ⟨uW x, zA x, rfl, fun j y h => ?_⟩⟩⟩
 have := xk zA cl i x g j y h
 rw [← d] at this
 simpa using this
inductive Dt (Rl : pW β) (k : Nat) (μ : kL) : List Value → List β → Prop
 | nil : Dt Rl k μ [] []
 | cons {ys zs : List Value} {x : β} {l : List β} : Rl μ ys x → Dt Rl k μ zs l → Dt Rl k μ (ys ++ zs) (x :: l)
theorem Dt.cells (b : Deep Rl k) {ys : List Value} (h : Dt Rl k μ ys l) : ∃ cl : List (sC k), (cl.map uW).flatten = ys ∧ pn (fun c x => Rl μ c.1 x) cl l := by
 induction h with
 | nil => exact ⟨[], rfl, .nil⟩
 | cons h1 _ ih =>
  obtain ⟨cl, e, a⟩ := ih
  exact ⟨b.cell h1 :: cl, by rw [bH, bM, e]; rfl, .cons h1 a⟩
theorem Dc.lit (d : Deep Rl k) {W : World} {b m : Nat} {ys : List Value} {e : TypeId} (h : Dt Rl k μ ys l) (hm : l.length = m) (g : m ≤ maxLen) (i : W.heap[b]? = some (.cells ys.toArray e (0, 0))) : Dc Rl k μ W (.slice (some ⟨b, 0, none⟩) m m) l := by
 obtain ⟨cl, c, a⟩ := h.cells d
 exact ⟨cl, Sl.OO (by rw [a.length]; exact hm) g c.symm i, a⟩
theorem Sl.imp {R R' : pW β} (h : Sl R k μ v l) (p : ∀ ys x, R μ ys x → R' μ ys x) : Sl R' k μ v l := by
 obtain ⟨A, c, rfl, h1, a, d⟩ := h
 refine ⟨A, c, rfl, h1, a, fun q => ?_⟩
 obtain ⟨b, off, cs, T, fr, rfl, o, g⟩ := d q
 exact ⟨b, off, cs, T, fr, rfl, o, fun i x r => let ⟨ys, j, m, n⟩ := g i x r; ⟨ys, j, p _ _ m, n⟩⟩
theorem E0 : ∀ (l : List Nat) (n : Nat), n ∈ l → n ≤ l.foldr max 0
 | [], n, h => by cases h
 | a :: l, n, h => by
  rcases aO.1 h with rfl | h
  ·exact Nat.le_max_left _ _
  ·exact dJ (E0 l n h) (Nat.le_max_right _ _)
theorem Sl.SY {R : pW β} {a : Nat → pW β} (h : Sl R k μ v l) (z : ∀ ys x, R μ ys x → ∃ n, a n μ ys x) (up : ∀ n m ys x, n ≤ m → a n μ ys x → a m μ ys x) : ∃ n, Sl (a n) k μ v l := by
 obtain ⟨A, c, rfl, h1, r, u⟩ := h
 by_cases s : 0 < l.length
 ·obtain ⟨b, off, cs, T, fr, rfl, D, w⟩ := u s
  obtain ⟨F, G, t⟩ := Cz (P := fun i x (p : Nat × List Value) => p.2.length = k ∧ a p.1 μ p.2 x ∧ ∀ j y, p.2[j]? = some y → cs[off + i * k + j]? = some y) (m := l) 0 (fun i x q => by
   obtain ⟨ys, g, o, d⟩ := w i x q
   obtain ⟨n, E⟩ := z _ _ o
   exact ⟨(n, ys), g, E, by rw [dZ]; exact d⟩)
  refine ⟨(F.map (·.1)).foldr max 0, _, c, rfl, h1, r, fun _ => ⟨b, off, cs, T, fr, rfl, D, fun i x q => ?_⟩⟩
  obtain ⟨p, hp, g, o, d⟩ := t i x q
  exact ⟨p.2, g, up _ _ _ _ (E0 _ _ (bG.2 ⟨p, dy hp, rfl⟩)) o, by rw [dZ] at d; exact d⟩
 ·exact ⟨0, A, c, rfl, h1, r, fun h => absurd h s⟩
theorem JQ {α : Type} {enc : α → List Value} {k : Nat} : Deep (Ai enc k) 1 where
 mono := Ai.mono _ _
 len := by rintro _ _ _ ⟨v, rfl, h⟩; rfl
 one := by rintro _ _ _ ⟨v, rfl, h⟩ u hu; rw [aW] at hu; subst hu; exact h.AP
def lC (e : TypeId) (Rl : pW β) (k : Nat) (μ : kL) (v : Value) (l : List β) (B : List (Nat × Obj)) : Prop := ∃ cl : List (sC k), kC e uW k v cl B ∧ pn (fun c x => Rl μ c.1 x) cl l
variable {e : TypeId} {B : List (Nat × Obj)}
theorem lC.mono (b : Deep Rl k) (h : lC e Rl k μ v l B) (c : kH μ μ') : lC e Rl k μ' v l B := by
 obtain ⟨cl, h1, a⟩ := h
 exact ⟨cl, h1, a.imp (fun _ _ h => b.mono _ _ _ _ c h)⟩
theorem lC.nil (e : TypeId) (Rl : pW β) (k : Nat) (μ : kL) : lC e Rl k μ (.slice none 0 0) [] [] := ⟨[], kC.nil _ _ _, .nil⟩
theorem lC.lit (d : Deep Rl k) {b m : Nat} {ys : List Value} (h : Dt Rl k μ ys l) (hm : l.length = m) (g : m ≤ maxLen) (i : ys.length = m * k) : lC e Rl k μ (.slice (some ⟨b, 0, none⟩) m m) l [(b, .cells ys.toArray e (0, 0))] := by
 obtain ⟨cl, c, a⟩ := h.cells d
 exact ⟨cl, kC.lit (by rw [a.length]; exact hm) g c.symm (by simpa using i), a⟩
theorem lC.form (h : lC e Rl k μ v l B) : ∃ A c, v = .slice A l.length c := by
 obtain ⟨cl, h1, a⟩ := h
 rw [← a.length]; exact h1.form
theorem lC.len (h : lC e Rl k μ v l B) : l.length ≤ 9223372036854775807 := by
 obtain ⟨cl, h1, a⟩ := h
 rw [← a.length]; exact h1.len
theorem lC.nd (h : lC e Rl k μ v l B) : (B.map (·.1)).Nodup := let ⟨_, h1, _⟩ := h; h1.nd
theorem lC.isNil {n c : Nat} (h : lC e Rl k μ (.slice none n c) l B) : l = [] := by
 obtain ⟨cl, h1, a⟩ := h
 have := a.length
 rw [h1.isNil] at this
 exact aP this.symm
theorem lC.sl (h : lC e Rl k μ v l B) (c : Deep Rl k) (d : kH μ μ') (hm : ∀ b o, (b, o) ∈ B → μ' b = some o) : Sl Rl k μ' v l := by
 obtain ⟨cl, h1, a⟩ := h
 exact Sl.Nq (h1.sl zA hm) (kH.refl _) (a.imp (fun _ _ h => c.mono _ _ _ _ d h))
end
section
variable {β : Type} {Rl : pW β} {k : Nat} {μ : kL} {v : Value} {l : List β} {e : TypeId} {B : List (Nat × Obj)}
variable {dd : Bool} {F : Nat → Prop} {w W : World} {L : List (Nat × Obj)}
theorem lC.Tl (h : lC e Rl k μ v l B) (b : Deep Rl k) (a : ST dd F w W μ L) (c : ∀ p, p ∈ B → p ∈ L) : Sl Rl k (hp W) v l := h.sl b a.kw (fun _ _ d => a.at_ (c _ d))
theorem lC.Lb (h : lC e Rl k μ v l B) (a : ST dd lM w W μ L) (b : ∀ p, p ∈ B → p ∈ L) : Fr w.heap.size v := let ⟨_, h1, _⟩ := h; h1.Lb a b
theorem ST.xR {Y : List (Nat × Obj)} (d : Deep Rl k) (a : ST dd F w W μ (B ++ Y)) (h : lC e Rl k μ v l B) : ∃ μ', ST dd F w W μ' Y ∧ kH μ μ' ∧ Lo F w μ μ' ∧ Sl Rl k μ' v l := by
 obtain ⟨cl, h1, c⟩ := h
 obtain ⟨μ', b, a2, a4, a3⟩ := ST.F7 a h1 zA
 exact ⟨μ', b, a2, a4, Sl.Nq a3 (kH.refl _) (c.imp (fun _ _ h => d.mono _ _ _ _ a2 h))⟩
variable {P : Program} {E : Nat → Value} {d : Option Nat} {ty : TypeId} {pos : String} {af : Array Edge} {g : Option (Nat × Bool)}
theorem nM {t e' : TypeId} {x a : Operand} {u : IntKind} {i : Int} {x0 : β} {A : List Value → Prop} (o : ∀ {ys}, Rl μ ys x0 → A ys) (r : P.underlying t = some (.slice e')) (he : ∀ w, (sizeOf e').run P w = .ok k w) (s : kp E x = v) (m : kp E a = .int u i) (q : Sl Rl k μ v l) (b : 0 ≤ i) (n : l[i.toNat]? = some x0) :
  ∃ p, (∃ ys, A ys ∧ At μ p ys) ∧ ∀ W, mx P E ⟨d, .indexAddr t x a, ty, pos, af, g⟩ W p W := by
 obtain ⟨p, ys, _, c, h, j⟩ := HZ (d := d) (ty := ty) (pos := pos) (af := af) (g := g) r he s m q b n
 exact ⟨p, ⟨ys, o c, h⟩, j⟩
theorem xq {x : Operand} {t e' : TypeId} (a : P.underlying t = some (.slice e')) (b : kp E x = v) (h : lC e Rl k μ v l B) : mx P E ⟨d, .call ⟨.builtin .len, #[x], #[t]⟩, ty, pos, af, g⟩ W (.int .i64 l.length) W := by
 obtain ⟨A, c, rfl⟩ := h.form
 exact zO a b
theorem mr {t e' : TypeId} {x j : Operand} {D : IntKind} {i : Int} {x0 : β} {A : List Value → Prop} (s : ∀ {ys}, Rl μ ys x0 → A ys) (y : P.underlying t = some (.slice e')) (he : ∀ w, (sizeOf e').run P w = .ok k w) (z : kp E x = v) (q : kp E j = .int D i) (h : lC e Rl k μ v l B) (m : 0 ≤ i) (r : l[i.toNat]? = some x0) :
  ∃ p, (∃ ys, A ys ∧ At (zJ B) p ys ∧ AE B k p i.toNat) ∧ ∀ W, mx P E ⟨d, .indexAddr t x j, ty, pos, af, g⟩ W p W := by
 obtain ⟨cl, h1, n⟩ := h
 obtain ⟨c, b, u⟩ := n.get r
 obtain ⟨p, a, o⟩ := mS (d := d) (ty := ty) (pos := pos) (af := af) (g := g) y he z q h1 m b
 exact ⟨p, ⟨c.1, s u, a.at h1 zA b, a⟩, o⟩
theorem O5 {α d : Type} {a : Nat} {l m r : List α} {b c : List d} (h : mZ a l m = some r) (h1 : b.length = l.length) (g : c.length = m.length) : mZ a b c = some (b ++ c) ∧ r = l ++ m := by
 unfold mZ at h ⊢
 rw [h1, g]
 split at h
 ·rename_i i; cases h; rw [aV i]; exact ⟨rfl, rfl⟩
 ·cases h
theorem vK {K : Value → World → Prop} {t : TypeId} {a : Nat} {z vs : Value} {m r : List β} {Y : List (Nat × Obj)} {x y : Operand} {i : TypeInfo} (U : Deep Rl k) (c : ST dd F w W μ (B ++ Y)) (o : 0 < k) (M : P.underlying t = some (.slice e)) (J : P.info? e = some i) (R : i.zero = some z) (q : z.cells.size = k) (p : i.size = k) (n : i.bytes = a) (O : kp E x = v) (Q : kp E y = vs) (G : lC e Rl k μ v l B) (L : Dc Rl k μ W vs m) (I : mZ a l m = some r) (h : ∀ W' b R', ST dd F w W' μ (R' ++ Y) → lC e Rl k μ b r R' → K b W') : nu P E ⟨d, .call ⟨.builtin .append, #[x, y], #[t, t]⟩, ty, pos, af, g⟩ W K := by
 obtain ⟨cl, h1, s⟩ := G
 obtain ⟨T, D, u⟩ := L
 obtain ⟨j, rfl⟩ := O5 I s.length u.length
 exact ny c zA o ON M J R q p n O Q h1 D j (fun W' b R' A a2 => h W' b R' A ⟨_, a2, s.append u⟩)
theorem ra {K : Value → World → Prop} {Y : List (Nat × Obj)} {t : TypeId} {x y : Operand} {p : Value} {i : Nat} {x0 x1 : β} {ys : List Value} (n : Deep Rl k) (a : ST dd F w W μ (B ++ Y)) (h : lC e Rl k μ v l B) (u : kp E x = p) (z : kp E y = .agg ys.toArray) (j : Rl μ ys x1) (hp : AE B k p i) (s : l[i]? = some x0) (q : ∀ w, (sizeOf t).run P w = .ok k w) (o : ∀ W' R', ST dd F w W' μ (R' ++ Y) → lC e Rl k μ v (l.set i x1) R' → K undef W') : nu P E ⟨d, .store t x y, ty, pos, af, g⟩ W K := by
 obtain ⟨cl, h1, b⟩ := h
 obtain ⟨c, r, _⟩ := b.get s
 exact vN (x1 := n.cell j) a h1 zA ON u z rfl hp r q (fun W' R' m a2 => o W' R' m ⟨_, a2, b.set j i⟩)
end
end Go.Proofs.YtklbhegeiijbjaaGreat
