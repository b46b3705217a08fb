/- a part of a proof of OutcomeChecks -/
import Derived.WalkKit
import Derived.WalkLawsBesides
import Derived.Maps.AppendAt
import Derived.OrdersHeld
import Derived.Laws.IdiomStrings
import Derived.Maps.RangeRun
import Derived.Lib.BytesEntry
import Derived.Lib.Bytealg
import Derived.Laws.Externs
import Derived.ChangeKeysEq
import Derived.Deep.AppendSrc
set_option linter.all false
namespace Go.Proofs.YtbnbdigcbldfhaaGreat
open Go.RowKit
def aa := @Option.bind_some
def ae := @Bool.false_eq_true
def ah := @Int.natCast_nonneg
def ai := @List.drop_length
def aj := @List.length_append
def ap := @if_neg
def aq := @if_pos
def ar := @run_underlying
def aw := @congrArg
def ay := @List.mem_cons
def az := @Bool.and_eq_true
def aA := @if_false
def aB := @List.append_assoc
def aC := @List.mem_singleton
def aD := @List.length_cons
def aF := @List.getElem?_eq_some_iff
def aI := @List.mem_append
def aJ := @Nat.le_refl
def aK := @if_true
def aM := @Bool.eq_iff_iff
def aN := @Result.andThen_ok
def aO := @List.map_cons
def aQ := @List.mem_map
def aR := @List.nodup_append
def aW := @List.mem_append_left
def aX := @List.eq_nil_of_length_eq_zero
def aY := @Bool.not_true
def aZ := @Sem.run_bind
def bc := @beq_self_eq_true
def bd := @Nat.mul_le_mul_right
def bh := @List.map_append
def bi := @List.cons.injEq
def bk := @Nat.lt_succ_self
def bn := @Nat.add_mul
def bp := @Calls.mono
def bq := @List.getElem?_eq_getElem
def bt := @List.nil_append
def bu := @List.append_nil
def bz := @decide_eq_true_eq
def bA := @List.length_take
def bD := @Array.getElem?_eq_some_iff
def bE := @List.cons_append
def bH := @List.length_nil
def bJ := @List.size_toArray
def bK := @List.Perm.append_left
def bL := @Array.length_toList
def bM := @Array.getD_eq_getD_getElem?
def bO := @Nat.min_eq_left
def bP := @Sem.run_pure
def bQ := @List.getElem?_eq_none
def bR := @Array.getElem?_toList
def bU := @List.take_of_length_le
def bX := @Bool.not_false
def bY := @List.mem_append_right
def bZ := @Addr.add_lit
def cd := @Nat.zero_add
def cg := @List.length_drop
def cj := @List.not_mem_nil
def ck := @List.getElem?_map
def cn := @Nat.le_trans
def cq := @List.getElem?_drop
def ct := @List.getElem?_take
def cv := @List.nodup_cons
def cw := @Option.map_some
def cy := @List.getElem?_take_of_lt
def cz := @Bool.not_eq_true
def cA := @List.flatten_cons
def cC := @List.ext_getElem?
def cD := @List.length_eq_zero_iff
def cE := @Nat.lt_of_lt_of_le
def cF := @Nat.eq_zero_or_pos
def cI := @Array.getElem?_modify
def cJ := @List.perm_append_comm
def cK := @Bool.eq_false_or_eq_true
def cL := @List.length_map
def cM := @List.mem_cons_of_mem
def cN := @List.findIdx?_eq_some_iff_getElem
def cO := @List.map_map
def cP := @List.Perm.refl
def cQ := @Oper.upon_value
def cR := @Oper.upon_enter
def cT := @List.mem_filter
def cU := @List.singleton_append
def cV := @List.eq_nil_or_concat
def cY := @List.forall_mem_cons
def db := @Int.toNat_natCast
def de := @DataW.trod_struct
def di := @decide_true
def dj := @Bool.true_and
def dl := @List.take_append
def dm := @List.getElem_mem
def dp := @List.findIdx?_cons
def dt := @Array.getElem?_eq_getElem
def du := @Classical.byContradiction
def dw := @List.getElem?_set
def dy := @and_true
def dz := @Nat.add_assoc
def dB := @ByteArray.toList_eq
def dC := @Oper.upon_skip
def dD := @List.perm_middle
def dF := @List.any_eq_true
def dG := @List.map_nil
def dM := @List.pairwise_cons
def dN := @decide_false
def dO := @Bool.or_eq_true
def dS := @List.sum_cons
def dT := @Array.getElem?_append
def dU := @List.getElem?_toArray
def dV := @List.take_append_drop
def dW := @List.length_mergeSort
def dX := @List.pairwise_map
def dZ := @List.flatMap_cons
def ec := @cell_of_row
def ed := @List.getElem?_append
def ee := @List.getElem?_append_right
def ei := @List.getD_eq_getElem?_getD
def ej := @List.take_take
def ek := @Nat.eq_of_mul_eq_mul_right
def eo := @or_false
def ep := @Nat.mul_le_mul
def ev := @List.findIdx?_eq_none_iff
def ew := @List.Sublist.append
def ey := @List.Perm.nodup_iff
def ez := @List.flatten_append
def eA := @Array.getElem?_replicate
def eB := @List.all_cons
def eC := @wp_mono
def eG := @List.map_mergeSort
def eU := @run_equalIn_struct
def eW := @List.getElem?_cons_zero
def eX := @List.pairwise_mergeSort
def eZ := @List.drop_take
def fa := @Function.comp_def
def fc := @List.findIdx?_map
def fe := @Option.some.injEq
def fg := @List.Perm.append_right
def fh := @List.take_left
def fi := @of_decide_eq_true
def fj := @getElem!_pos
def fF := @bne_self_eq_false
def fG := @Nat.div_lt_iff_lt_mul
def fH := @List.length_replicate
def fI := @Array.getElem?_mapIdx
def fJ := @List.length_filter_le
def fK := @List.mem_flatten
def fL := @Option.getD_some
def fM := @beq_iff_eq
def fN := @List.all_eq_true
def fR := @List.mem_flatMap
def fX := @Nat.zero_le
def fY := @List.pairwise_append
def fZ := @List.findIdx?_append
def gf := @List.length_set
def gj := @run_callFunc_extern
def gk := @List.mergeSort_perm
def gl := @List.flatMap_append
def gm := @List.take_length_add_append
def gn := @List.perm_append_comm_assoc
def gv := @run_loadCells_list
def gw := @grownCap_le_maxLen
def gx := @List.map_replicate
def gK := @UInt8.toNat_lt
def gL := @eq_iff_iff
def gM := @Bool.and_assoc
def gN := @Nat.le_succ
def gO := @run_storeCells_at
def gU := @UInt8.ofNat_toNat
def gV := @ByteArray.ext
def ir := @Bool.false_or
def iu := @Nat.add_comm
def iv := @Nat.add_zero
def iH := @eq_comm
def iI := @List.find?_cons
def iJ := @Nat.one_mul
def iK := @getD_set_ne
def iP := @mem_ready
def lz (E : Nat → Value) (d : Nat) (v : Value) : Nat → Value := fun t => if t = d then v else E t
def iZ (E : Nat → Value) : Operand → Value
 | .tmp t => E t
 | .const v => v
 | .global g => .pointer (some ⟨g, 0, none⟩)
 | .func f => .func (.func f) #[] #[]
def Ag (n : Nat) (a : Act) (E : Nat → Value) : Prop := a.tmps.size = n ∧ a.defers = [] ∧ ∀ t, a.tmps.getD t undef = E t
section
variable {n : Nat} {a : Act} {E : Nat → Value}
theorem Ag.eval (h : Ag n a E) : a.eval = iZ E := by
 funext x
 cases x with
 | tmp t => exact h.2.2 t
 | const v => rfl
 | global g => rfl
 | func f => rfl
theorem Ag.put (h : Ag n a E) {d : Nat} (i : d < n) (v : Value) : Ag n (a.put (some d) v) (lz E d v) := by
 refine ⟨by simp [Act.put, h.1], h.2.1, fun t => ?_⟩
 have g := h.2.2 t
 simp only [Act.put, lz]
 by_cases c : t = d
 ·subst c
  simp [h.1, i]
 ·have : ¬ d = t := fun e => c e.symm
  rw [ap c, ← g]
  simp [bM, this]
theorem Ag.tN (h : Ag n a E) (v : Value) : Ag n (a.put none v) E := h
theorem Ag.yield (h : Ag n a E) {ops : Array Oper} {j t : Nat} {b : Bool} (d : (ops[j]?).bind (·.dst) = some t) (i : t < n) (k : E t = .bool b) : yielded ops a.tmps j = some b := by
 have c := h.2.2 t
 have g : a.tmps[t]? = some (E t) := by
  rw [← c]
  simp [bM, h.1, i]
 simp [yielded, d, g, k]
end
abbrev mo := Exit → (Nat → Value) → World → Prop
def E0 : Nat → Value := fun _ => undef
def lift (n : Nat) (Q : mo) : Exit → Act → World → Prop
 | .panic c, a, w => a.defers = [] ∧ Q (.panic c) E0 w
 | .outgrown, _, _ => False
 | e, a, w => ∃ E, Ag n a E ∧ Q e E w
theorem IK {n : Nat} {Q : mo} {c : List PanicEntry} {a : Act} {d : Option Nat} {v : Value} {w : World} (h : lift n Q (.panic c) (a.put d v) w) : lift n Q (.panic c) a w := by
 cases d <;> exact h
def CW (P : Program) (n : Nat) (c : Code) (Q : mo) (E : Nat → Value) (W : World) : Prop := ∀ a, Ag n a E → c.wp P (lift n Q) a W
def LW (P : Program) (n : Nat) (ops : Array Oper) (Q : mo) (l : List Oper) (E : Nat → Value) (W : World) : Prop := ∀ a, Ag n a E → wpList P ops (lift n Q) l a W
def ot (K : (Nat → Value) → World → Prop) (Q : mo) : mo
 | .normal, E, W => K E W
 | e, E, W => Q e E W
def uL (id : Nat) (Q : mo) : mo
 | .exit j, E, W => if j = id then Q .normal E W else Q (.exit j) E W
 | e, E, W => Q e E W
section
variable {P : Program} {n : Nat} {Q : mo} {E : Nat → Value} {W : World} {c x y : Code} {ops : Array Oper} {rest : List Oper} {o : Oper}
theorem GC {Q' : mo} (h : CW P n c Q E W) (i : ∀ e E W, Q e E W → Q' e E W) : CW P n c Q' E W := fun a j =>
 eC (h a j) (fun e _ _ h => by
  cases e with
  | panic c => exact ⟨h.1, i _ _ _ h.2⟩
  | outgrown => exact h
  | _ => obtain ⟨E', d, g⟩ := h; exact ⟨E', d, i _ _ _ g⟩)
theorem jm (h : CW P n x (ot (fun E W => CW P n y Q E W) Q) E W) : CW P n (.seq x y) Q E W := fun a g =>
 wp_seq (eC (h a g) (fun e d j h => by
  cases e with
  | normal => obtain ⟨E', c, i⟩ := h; exact i d c
  | _ => exact h))
theorem jJ (h : Q .normal E W) : CW P n .skip Q E W := fun _ a => wp_skip ⟨E, a, h⟩
theorem jz (h : Q .ret E W) : CW P n .ret Q E W := fun _ a => wp_ret ⟨E, a, h⟩
theorem nt {id : Nat} (h : Q (.exit id) E W) : CW P n (.exit id) Q E W := fun _ a => wp_exit ⟨E, a, h⟩
theorem lc {id : Nat} (h : CW P n c (uL id Q) E W) : CW P n (.block id c) Q E W := fun a k =>
 wp_block (eC (h a k) (fun e m o h => by
  cases e with
  | exit j =>
   obtain ⟨E', d, g⟩ := h
   simp only [Exit.inBlock]
   simp only [uL] at g
   split at g
   ·rename_i i; rw [aq i]; exact ⟨E', d, g⟩
   ·rename_i i; rw [ap i]; exact ⟨E', d, g⟩
  | _ => exact h))
theorem LV {co : Operand} {b : Bool} (d : iZ E co = .bool b) (i : b = true → CW P n x Q E W) (g : b = false → CW P n y Q E W) : CW P n (.cond co x y) Q E W := fun a c => by
 refine wp_cond_split (t := b) (by rw [c.eval]; exact d) (fun h => i h a c) (fun h => g h a c)
theorem vN {co : Operand} (a : iZ E co = .bool true) (h : CW P n x Q E W) : CW P n (.cond co x y) Q E W := LV a (fun _ => h) (fun h => by cases h)
theorem nW {co : Operand} (a : iZ E co = .bool false) (h : CW P n y Q E W) : CW P n (.cond co x y) Q E W := LV a (fun h => by cases h) (fun _ => h)
theorem jj {id : Nat} {l : List Oper} (h : LW P n l.toArray Q l E W) : CW P n (.region id l.toArray false) Q E W := fun a c => wp_region_lit (h a c)
theorem jC (h : Q .normal E W) : LW P n ops Q [] E W := fun _ a => wpList_nil ⟨E, a, h⟩
theorem HQ {P : Program} {c : Code} {Q : Exit → Act → World → Prop} {a : Act} {w : World} (I : Nat → Act → World → Prop) (m : Nat) (u : I m a w) (round : ∀ m a w, I m a w → c.wp P (Exit.then (fun p q => ∃ y, y < m ∧ I y p q) Q) a w) : (Code.loop c).wp P Q a w := by
 intro b k cs
 have key : ∀ m a w, I m a w → ∃ e p q, Q e p q ∧ Arrives P (lone (b.at a (.code c :: .inLoop c :: k)) cs w) b k cs e p q := by
  intro m
  induction m using Nat.strongRecOn with
  | _ m ih =>
   intro a w A
   obtain ⟨e, g, h, j, d⟩ := round m a w A b (.inLoop c :: k) cs
   cases e with
   | normal =>
    obtain ⟨y, z, n⟩ := j
    obtain ⟨t, s, v, o, i⟩ := ih y z g h n
    exact ⟨t, s, v, o, .of_steps (Steps.trans d (.one step_inLoop)) i⟩
   | exit id => exact ⟨_, g, h, j, .pass (x := .inLoop c) rfl (fun _ _ => .inl (by simp)) d⟩
   | goto l => exact ⟨_, g, h, j, .pass (x := .inLoop c) rfl (fun _ _ => .inl (by simp)) d⟩
   | ret => exact ⟨_, g, h, j, .pass (x := .inLoop c) rfl (fun _ _ => .inl (by simp)) d⟩
   | panic D => exact ⟨_, g, h, j, .pass (x := .inLoop c) rfl (fun _ _ => .inl (by simp)) d⟩
   | outgrown => exact ⟨_, g, h, j, .pass (x := .inLoop c) rfl (fun _ _ => .inl (by simp)) d⟩
 obtain ⟨e, p, q, j, d⟩ := key m a w u
 exact ⟨e, p, q, j, .of_steps (.one step_loop) d⟩
theorem og (I : Nat → (Nat → Value) → World → Prop) (m : Nat) (d : I m E W) (round : ∀ m E W, I m E W → CW P n c (ot (fun E' W' => ∃ g, g < m ∧ I g E' W') Q) E W) : CW P n (.loop c) Q E W := fun a j =>
 HQ (fun m a w => ∃ E, Ag n a E ∧ I m E w) m ⟨E, j, d⟩ (fun m a w ⟨E, j, p⟩ =>
  eC (round m E w p a j) (fun e q s h => by
   cases e with
   | normal => obtain ⟨E', k, g, o, i⟩ := h; exact ⟨g, o, E', k, i⟩
   | _ => exact h))
def lq (n : Nat) (ops : Array Oper) (E : Nat → Value) (o : Oper) : Prop :=
 o.guard = none ∨ ∃ j want t, o.guard = some (j, want) ∧ (ops[j]?).bind (·.dst) = some t ∧ t < n ∧ E t = .bool want
theorem lq.of {a : Act} (h : lq n ops E o) (d : Ag n a E) : Region.wanted o (yielded ops a.tmps) = true := by
 rcases h with h | ⟨j, want, t, g, i, k, c⟩
 ·simp [Region.wanted, h]
 ·simp [Region.wanted, g, d.yield i k c]
theorem Ni {d : Nat} {v : Value} {W' : World} (hw : lq n ops E o) (g : o.dst = some d) (i : d < n) (j : (execOp (iZ E) o).run P W = .ok (.value v) W') (h : LW P n ops Q rest (lz E d v) W') : LW P n ops Q (o :: rest) E W := fun a c => by
 unfold wpList
 rw [aq (hw.of c)]
 refine .inl ?_
 unfold Oper.wp
 rw [c.eval, j, cQ, g]
 exact h _ (c.put i v)
theorem Oe {W' : World} (hw : lq n ops E o) (d : o.dst = none) (g : (execOp (iZ E) o).run P W = .ok .skip W') (h : LW P n ops Q rest E W') : LW P n ops Q (o :: rest) E W := fun a c => by
 unfold wpList
 rw [aq (hw.of c)]
 refine .inl ?_
 unfold Oper.wp
 rw [c.eval, g, dC, d]
 exact h _ (c.tN _)
theorem OI {f : FuncId} {args : Array Value} {d : Nat} (hw : lq n ops E o) (i : o.dst = some d) (k : d < n) (m : (execOp (iZ E) o).run P W = .ok (.enter f args) W) (h : Calls P f args W fun e g => ∃ v, e = .returned v ∧ LW P n ops Q rest (lz E d v) g) : LW P n ops Q (o :: rest) E W := fun a c => by
 unfold wpList
 rw [aq (hw.of c)]
 refine .inl ?_
 unfold Oper.wp
 rw [c.eval, m, cR]
 refine h.mono ?_
 rintro e g ⟨v, rfl, j⟩
 simp only [i]
 exact j _ (c.put k v)
theorem RT {d j t : Nat} {want : Bool} (i : o.dst = some d) (p : d < n) (k : o.guard = some (j, want)) (m : (ops[j]?).bind (·.dst) = some t) (q : t < n) (g : E t = .bool (!want)) (h : LW P n ops Q rest (lz E d undef) W) : LW P n ops Q (o :: rest) E W := fun a c => by
 unfold wpList
 have s := c.yield m q g
 rw [ap (by simp [Region.wanted, k, s])]
 rw [i]
 exact h _ (c.put p _)
end
variable {dd : Bool}
abbrev jw := Nat → Option Obj
def hp (W : World) : jw := fun b => W.heap[b]?
def rN (dd : Bool) (a b : Nat) : Prop := dd = true → a ≤ b
theorem rN.of {dd : Bool} {a b : Nat} (h : a ≤ b) : rN dd a b := fun _ => h
theorem rN.trans {dd : Bool} {a b c : Nat} (h : rN dd a b) (k : rN dd b c) : rN dd a c := fun e => cn (h e) (k e)
structure Ex (dd : Bool) (w W : World) : Prop where
 os : W.os = w.os
 tape : W.tape = w.tape
 output : W.output = w.output
 drawn : rN dd w.drawn W.drawn
 size : w.heap.size ≤ W.heap.size
 kN : ∀ b, b < w.heap.size → W.heap[b]? = w.heap[b]?
theorem Ex.refl (w : World) : Ex dd w w := ⟨rfl, rfl, rfl, rN.of (aJ _), aJ _, fun _ _ => rfl⟩
theorem Ex.trans {a b c : World} (h : Ex dd a b) (k : Ex dd b c) : Ex dd a c :=
 ⟨k.os.trans h.os, k.tape.trans h.tape, k.output.trans h.output, rN.trans h.drawn k.drawn, cn h.size k.size, fun i d => (k.kN i (cE d h.size)).trans (h.kN i d)⟩
theorem Ex.drew (w : World) : Ex dd w w.drew := ⟨rfl, rfl, rfl, rN.of (gN _), aJ _, fun _ _ => rfl⟩
theorem Ex.alloc (w : World) (o : Obj) : Ex dd w (w.alloc o) := ⟨rfl, rfl, rfl, rN.of (aJ _), by show w.heap.size ≤ (w.heap.push o).size; simp, fun k hk => Below.heap_alloc w o k hk⟩
theorem Ex.kw {w W : World} (h : Ex true w W) : Ex dd w W := ⟨h.os, h.tape, h.output, rN.of (h.drawn rfl), h.size, h.kN⟩
def js (μ μ' : jw) : Prop := ∀ b o, μ b = some o → μ' b = some o
theorem js.refl (μ : jw) : js μ μ := fun _ _ h => h
theorem js.trans {a b c : jw} (h : js a b) (k : js b c) : js a c := fun x o d => k x o (h x o d)
structure ST (dd : Bool) (F : Nat → Prop) (w W : World) (μ : jw) (L : List (Nat × Obj)) : Prop where
 os : W.os = w.os
 tape : W.tape = w.tape
 output : W.output = w.output
 drawn : rN dd w.drawn W.drawn
 size : w.heap.size ≤ W.heap.size
 kN : ∀ b, b < w.heap.size → ¬ F b → W.heap[b]? = w.heap[b]?
 mem : ∀ b o, μ b = some o → W.heap[b]? = some o
 box : ∀ b o, (b, o) ∈ L → W.heap[b]? = some o ∧ μ b = none ∧ (w.heap.size ≤ b ∨ F b)
 nd : (L.map (·.1)).Nodup
def jD : Nat → Prop := fun _ => False
theorem ST.start (w : World) : ST dd jD w w (hp w) [] :=
 ⟨rfl, rfl, rfl, rN.of (aJ _), aJ _, fun _ _ _ => rfl, fun _ _ h => h, fun _ _ h => (by cases h), by simp⟩
section
variable {F : Nat → Prop} {w W W' : World} {μ μ' : jw} {L L' : List (Nat × Obj)}
theorem ST.ex (h : ST dd jD w W μ L) : Ex dd w W := ⟨h.os, h.tape, h.output, h.drawn, h.size, fun b a => h.kN b a (fun x => x)⟩
theorem OS (W : World) (o : Obj) : (W.alloc o).heap[W.heap.size]? = some o := heap_alloc_new W o
theorem mB {W : World} {b : Nat} {o : Obj} (h : W.heap[b]? = some o) : b < W.heap.size := (bD.1 h).1
theorem ST.drew (h : ST dd F w W μ L) : ST dd F w W.drew μ L :=
 ⟨h.os, h.tape, h.output, rN.trans h.drawn (rN.of (gN _)), h.size, h.kN, h.mem, h.box, h.nd⟩
theorem ST.Dl (h : ST dd F w W μ L) {b : Nat} {o : Obj} (a : (b, o) ∈ L) : b < W.heap.size := mB (h.box b o a).1
theorem ST.alloc (h : ST dd F w W μ L) (o : Obj) : ST dd F w (W.alloc o) μ ((W.heap.size, o) :: L) := by
 refine ⟨h.os, h.tape, h.output, h.drawn, cn h.size (Ex.alloc (dd := true) W o).size, fun b a i => ?_, fun b c a => ?_, fun b c a => ?_, ?_⟩
 ·rw [(Ex.alloc (dd := true) W o).kN b (cE a h.size)]; exact h.kN b a i
 ·have := h.mem b c a
  rw [(Ex.alloc (dd := true) W o).kN b (mB this)]; exact this
 ·rcases ay.1 a with e | a
  ·cases e
   refine ⟨OS W o, ?_, .inl h.size⟩
   cases hm : μ W.heap.size with
   | none => rfl
   | some x => have := mB (h.mem _ _ hm); omega
  ·obtain ⟨h1, d, g⟩ := h.box b c a
   exact ⟨by rw [(Ex.alloc (dd := true) W o).kN b (mB h1)]; exact h1, d, g⟩
 ·simp only [aO, cv]
  refine ⟨fun hm => ?_, h.nd⟩
  obtain ⟨⟨b, c⟩, a, e⟩ := aQ.1 hm
  have := h.Dl a
  simp at e
  omega
theorem ST.put {A B : List (Nat × Obj)} {b : Nat} {o n : Obj} (h : ST dd F w W μ (A ++ (b, o) :: B)) (u : W'.os = W.os ∧ W'.tape = W.tape ∧ W'.output = W.output ∧ W.drawn ≤ W'.drawn ∧ W'.heap.size = W.heap.size) (d : ∀ k, k ≠ b → W'.heap[k]? = W.heap[k]?) (v : W'.heap[b]? = some n) : ST dd F w W' μ (A ++ (b, n) :: B) := by
 obtain ⟨h1, p, q, s, t⟩ := u
 have c := h.box b o (by simp)
 have a := h.nd
 simp only [bh, aO] at a
 have g : ∀ x o, (x, o) ∈ A → x ≠ b := fun x o j e => by
  subst e
  have := (aR.1 a).2.2 x (aQ.2 ⟨_, j, rfl⟩) x (by simp)
  exact this rfl
 have i : ∀ x o, (x, o) ∈ B → x ≠ b := fun x o j e => by
  subst e
  have := (cv.1 (aR.1 a).2.1).1
  exact this (aQ.2 ⟨_, j, rfl⟩)
 refine ⟨h1.trans h.os, p.trans h.tape, q.trans h.output, rN.trans h.drawn (rN.of s), by rw [t]; exact h.size, fun k hk m => ?_, fun k x hk => ?_, fun k x hk => ?_, by simpa using a⟩
 ·rw [d k (fun e => by subst e; rcases c.2.2 with h | h; omega; exact m h)]
  exact h.kN k hk m
 ·rw [d k (fun e => by subst e; rw [c.2.1] at hk; cases hk)]
  exact h.mem k x hk
 ·rcases aI.1 hk with hk | hk
  ·rw [d k (g k x hk)]; exact h.box k x (by simp [hk])
  ·rcases ay.1 hk with e | hk
   ·cases e; exact ⟨v, c.2⟩
   ·rw [d k (i k x hk)]; exact h.box k x (by simp [hk])
def Lo (F : Nat → Prop) (w : World) (μ μ' : jw) : Prop := ∀ b, b < w.heap.size → ¬ F b → μ' b = μ b
theorem Lo.refl {F : Nat → Prop} {w : World} {μ : jw} : Lo F w μ μ := fun _ _ _ => rfl
theorem Lo.trans {F : Nat → Prop} {w : World} {a b c : jw} (h : Lo F w a b) (k : Lo F w b c) : Lo F w a c := fun x g d => (k x g d).trans (h x g d)
def grow (μ : jw) (W W' : World) : jw := fun b => if b < W.heap.size then μ b else W'.heap[b]?
theorem ST.Cf (h : ST dd F w W μ L) {b : Nat} {o : Obj} (a : μ b = some o) : b < W.heap.size := mB (h.mem b o a)
theorem ST.call (h : ST dd F w W μ L) (c : Ex dd W W') : ST dd F w W' (grow μ W W') L := by
 refine ⟨c.os.trans h.os, c.tape.trans h.tape, c.output.trans h.output, rN.trans h.drawn c.drawn, cn h.size c.size, fun b a j => ?_, fun b o a => ?_, fun b o a => ?_, h.nd⟩
 ·rw [c.kN b (cE a h.size)]; exact h.kN b a j
 ·unfold grow at a
  split at a
  ·rename_i d; rw [c.kN b d]; exact h.mem b o a
  ·exact a
 ·obtain ⟨h1, g, i⟩ := h.box b o a
  exact ⟨by rw [c.kN b (mB h1)]; exact h1, by unfold grow; rw [aq (mB h1)]; exact g, i⟩
theorem ST.NT (h : ST dd F w W μ L) (W' : World) : js μ (grow μ W W') := fun b o a => by
 unfold grow; rw [aq (h.Cf a)]; exact a
theorem ST.kw (h : ST dd F w W μ' L) (c : js μ μ') : ST dd F w W μ L :=
 ⟨h.os, h.tape, h.output, h.drawn, h.size, h.kN, fun b o a => h.mem b o (c b o a), fun b o a => by
  obtain ⟨h1, d, g⟩ := h.box b o a
  refine ⟨h1, ?_, g⟩
  cases hm : μ b with
  | none => rfl
  | some x => (have := c b x hm; rw [d] at this; cases this), h.nd⟩
theorem ST.Ej (h : ST dd F w W μ L) (a : Ex dd W W') : ST dd F w W' μ L := (h.call a).kw (h.NT W')
theorem ST.jf (h : ST dd F w W μ L) : js μ (hp W) := h.mem
def KM (μ : jw) (b : Nat) (o : Obj) : jw := fun k => if k = b then some o else μ k
theorem ST.GX {A B : List (Nat × Obj)} {b : Nat} {o : Obj} (h : ST dd F w W μ (A ++ (b, o) :: B)) : ST dd F w W (KM μ b o) (A ++ B) := by
 have d := h.box b o (by simp)
 have a := h.nd
 simp only [bh, aO] at a
 have i : ∀ x y, (x, y) ∈ A ++ B → x ≠ b := fun x y c e => by
  subst e
  rcases aI.1 c with c | c
  ·exact (aR.1 a).2.2 x (aQ.2 ⟨_, c, rfl⟩) x (by simp) rfl
  ·exact (cv.1 (aR.1 a).2.1).1 (aQ.2 ⟨_, c, rfl⟩)
 refine ⟨h.os, h.tape, h.output, h.drawn, h.size, h.kN, fun k x hk => ?_, fun k x hk => ?_, ?_⟩
 ·unfold KM at hk
  split at hk
  ·rename_i e; cases hk; rw [e]; exact d.1
  ·exact h.mem k x hk
 ·have g : (k, x) ∈ A ++ (b, o) :: B := by
   rcases aI.1 hk with h | h <;> simp [h]
  obtain ⟨h1, j, m⟩ := h.box k x g
  exact ⟨h1, by unfold KM; rw [ap (i k x hk)]; exact j, m⟩
 ·have : (A ++ B).Sublist (A ++ (b, o) :: B) := ew (List.Sublist.refl A) (List.sublist_cons_self _ _)
  exact List.Nodup.sublist (this.map _) h.nd
theorem ST.GB {A B : List (Nat × Obj)} {b : Nat} {o : Obj} (h : ST dd F w W μ (A ++ (b, o) :: B)) : js μ (KM μ b o) := fun k x hk => by
 unfold KM
 split
 ·rename_i e; subst e; rw [(h.box k o (by simp)).2.1] at hk; cases hk
 ·exact hk
theorem ST.NA {A B : List (Nat × Obj)} {b : Nat} {o : Obj} (h : ST dd F w W μ (A ++ (b, o) :: B)) : Lo F w μ (KM μ b o) := fun k hk c => by
 refine ap (fun e => ?_)
 subst e
 rcases (h.box k o (by simp)).2.2 with a | a
 ·omega
 ·exact c a
theorem ST.drop {A B : List (Nat × Obj)} {p : Nat × Obj} (h : ST dd F w W μ (A ++ p :: B)) : ST dd F w W μ (A ++ B) :=
 (h.GX (b := p.1) (o := p.2)).kw h.GB
end
abbrev py (α : Type) := jw → List Value → α → Prop
def Sl {α : Type} (R : py α) (k : Nat) (μ : jw) (v : Value) (l : List α) : Prop :=
 ∃ A c, v = .slice A l.length c ∧ l.length ≤ c ∧ c ≤ maxLen ∧ (0 < l.length → ∃ b off cs T fr, A = some ⟨b, off, none⟩ ∧ μ b = some (.cells cs T fr) ∧
  ∀ i x, l[i]? = some x → ∃ ys, ys.length = k ∧ R μ ys x ∧ ∀ j y, ys[j]? = some y → cs[off + i * k + j]? = some y)
def At (μ : jw) (v : Value) (ys : List Value) : Prop :=
 ∃ b off cs T fr, v = .pointer (some ⟨b, off, none⟩) ∧ μ b = some (.cells cs T fr) ∧ ∀ j y, ys[j]? = some y → cs[off + j]? = some y
def Fr (B : Nat) (v : Value) : Prop := ∀ b, v.ownBlock = some b → B ≤ b
def FJ {α : Type} (R : py α) : Prop := ∀ μ μ' ys x, js μ μ' → R μ ys x → R μ' ys x
def Pl {α : Type} (enc : α → List Value) : py α := fun _ ys x => ys = enc x
theorem Pl.mono {α : Type} (enc : α → List Value) : FJ (Pl enc) := fun _ _ _ _ _ h => h
theorem Sl.mono {α : Type} {R : py α} (t : FJ R) {k : Nat} {μ μ' : jw} {v : Value} {l : List α} (h : Sl R k μ v l) (d : js μ μ') : Sl R k μ' v l := by
 obtain ⟨A, c, h1, g, j, m⟩ := h
 refine ⟨A, c, h1, g, j, fun u => ?_⟩
 obtain ⟨b, off, cs, T, fr, n, o, p⟩ := m u
 exact ⟨b, off, cs, T, fr, n, d _ _ o, fun i x w => let ⟨ys, q, s, a⟩ := p i x w; ⟨ys, q, t _ _ _ _ d s, a⟩⟩
theorem At.mono {μ μ' : jw} {v : Value} {ys : List Value} (h : At μ v ys) (d : js μ μ') : At μ' v ys := by
 obtain ⟨b, off, cs, T, fr, h1, a, c⟩ := h
 exact ⟨b, off, cs, T, fr, h1, d _ _ a, c⟩
theorem Sl.len {α : Type} {R : py α} {k : Nat} {μ : jw} {v : Value} {l : List α} (h : Sl R k μ v l) : l.length ≤ 9223372036854775807 := by
 obtain ⟨A, c, h1, d, a, g⟩ := h
 unfold maxLen at a
 omega
theorem Sl.nil {α : Type} (R : py α) (k : Nat) (μ : jw) : Sl R k μ (.slice none 0 0) [] := ⟨none, 0, rfl, aJ _, by decide, fun h => absurd h (by simp)⟩
theorem Fr.mono {B B' : Nat} {v : Value} (h : Fr B v) (a : B' ≤ B) : Fr B' v := fun b c => cn a (h b c)
theorem Fr.nil (B : Nat) : Fr B (.slice none 0 0) := fun b a => by simp [Value.ownBlock] at a
end Go.Proofs.YtbnbdigcbldfhaaGreat
namespace Go.Proofs.YtbnbdigcbldfhaaGreat
open Go.RowKit
variable {dd : Bool}
section
variable {P : Program} {n : Nat} {Q : mo} {E : Nat → Value} {W : World} {ops : Array Oper} {rest : List Oper}
 {d : Option Nat} {ty : TypeId} {pos : String} {af : Array Edge} {g : Option (Nat × Bool)}
 {F : Nat → Prop} {w : World} {μ : jw} {L : List (Nat × Obj)}
def kq (P : Program) (E : Nat → Value) (o : Oper) (W : World) (v : Value) (W' : World) : Prop := (execOp (iZ E) o).run P W = .ok (.value v) W'
theorem GM {o : Oper} {dd : Nat} {v : Value} (hw : lq n ops E o) (a : o.dst = some dd) (c : dd < n) (d : kq P E o W v W) (h : LW P n ops Q rest (lz E dd v) W) : LW P n ops Q (o :: rest) E W := Ni hw a c d h
theorem jd {x : Operand} {v : Value} (a : iZ E x = v) : kq P E ⟨d, .move x, ty, pos, af, g⟩ W v W := by rw [← a]; rfl
theorem mw {x : Operand} {v : Value} (a : iZ E x = v) : kq P E ⟨d, .assign x, ty, pos, af, g⟩ W v W := by rw [← a]; rfl
theorem jq {c x y : Operand} {v : Value} (a : iZ E c = .bool true) (h : iZ E x = v) : kq P E ⟨d, .pick c x y, ty, pos, af, g⟩ W v W := by
 show (do pure (.value (if ← asBool (iZ E c) then iZ E x else iZ E y)) : Sem Next).run P W = _
 rw [a, ← h]; simp [asBool]
theorem jn {c x y : Operand} {v : Value} (a : iZ E c = .bool false) (h : iZ E y = v) : kq P E ⟨d, .pick c x y, ty, pos, af, g⟩ W v W := by
 show (do pure (.value (if ← asBool (iZ E c) then iZ E x else iZ E y)) : Sem Next).run P W = _
 rw [a, ← h]; simp [asBool]
theorem yO {x : Operand} {i : Nat} {vs : Array Value} {v : Value} (c : iZ E x = .tuple vs) (a : vs[i]? = some v) : kq P E ⟨d, .extract x i, ty, pos, af, g⟩ W v W := by
 show (do pure (.value (← Instr.extract (iZ E x) i)) : Sem Next).run P W = _
 rw [c]; simp [Instr.extract, a]
theorem lj {u : TypeId} {x : Operand} {b : Bool} (a : iZ E x = .bool b) : kq P E ⟨d, .unOp .not u x, ty, pos, af, g⟩ W (.bool !b) W := by
 show (do pure (.value (← Op.unary .not (iZ E x))) : Sem Next).run P W = _
 rw [a]; simp [Op.unary]
theorem Lv {fn : Fn} {first caps : Array Operand} {v : Value} (a : .func fn (first.map (iZ E)) (caps.map (iZ E)) = v) : kq P E ⟨d, .makeFunc fn first caps, ty, pos, af, g⟩ W v W := by
 show (do pure (.value (← Instr.makeFunc fn (first.map (iZ E)) (caps.map (iZ E)))) : Sem Next).run P W = _
 rw [← a]; simp [Instr.makeFunc]
def H9 (k : IntKind) (op : BinOp) (a b : Int) : Option Value :=
 match op with
 | .eql => some (.bool (a == b))
 | .neq => some (.bool (a != b))
 | .lss => some (.bool (decide (a < b)))
 | .leq => some (.bool (decide (a ≤ b)))
 | .gtr => some (.bool (decide (a > b)))
 | .geq => some (.bool (decide (a ≥ b)))
 | .add => some (.int k (k.wrap (a + b)))
 | .sub => some (.int k (k.wrap (a - b)))
 | .mul => some (.int k (k.wrap (a * b)))
 | _ => none
theorem kd {op : BinOp} {tx tv : TypeId} {x y : Operand} {k : IntKind} {a b : Int} {v : Value} (h : iZ E x = .int k a) (i : iZ E y = .int k b) (c : H9 k op a b = some v) :
  kq P E ⟨d, .binOp op tx x y tv, ty, pos, af, g⟩ W v W := by
 show (do let r ← (do eqGuard op tx x y (iZ E x) (iZ E y); binOp op tx (iZ E x) (iZ E y)); pure (.value r) : Sem Next).run P W = _
 rw [h, i]
 cases op <;> simp [H9] at c <;> subst c <;> simp [eqGuard, binOp, Op.intCmp, Op.intArith]
def Ps (op : BinOp) (a b : ByteArray) : Option Value :=
 match op with
 | .eql => some (.bool (a.toList == b.toList))
 | .neq => some (.bool !(a.toList == b.toList))
 | .lss => some (.bool (Op.bytesLess a.toList b.toList))
 | .leq => some (.bool (Op.bytesLess a.toList b.toList || a.toList == b.toList))
 | .gtr => some (.bool !(Op.bytesLess a.toList b.toList || a.toList == b.toList))
 | .geq => some (.bool !(Op.bytesLess a.toList b.toList))
 | _ => none
def Ad (a b : ByteArray) : Option ByteArray := if ((a.size + b.size : Nat) : Int) > IntKind.i64.max then none else some (a ++ b)
theorem tZ {op : BinOp} {tx tv : TypeId} {x y : Operand} {a b : ByteArray} {v : Value} (h : iZ E x = .string a) (i : iZ E y = .string b) (c : Ps op a b = some v) :
  kq P E ⟨d, .binOp op tx x y tv, ty, pos, af, g⟩ W v W := by
 show (do let r ← (do eqGuard op tx x y (iZ E x) (iZ E y); binOp op tx (iZ E x) (iZ E y)); pure (.value r) : Sem Next).run P W = _
 rw [h, i]
 cases op <;> simp [Ps] at c <;> subst c <;> simp [eqGuard, binOp, Op.stringOp]
theorem rn {tx tv : TypeId} {x y : Operand} {a b : Array Value} {r : Bool} (i : iZ E x = .agg a) (j : iZ E y = .agg b) (c : ∀ W, (eqGuard .eql tx x y (.agg a) (.agg b)).run P W = .ok () W) (h : ∀ W, (binOp .eql tx (.agg a) (.agg b)).run P W = .ok (.bool r) W) : kq P E ⟨d, .binOp .eql tx x y tv, ty, pos, af, g⟩ W (.bool r) W := by
 show (do let r ← (do eqGuard .eql tx x y (iZ E x) (iZ E y); binOp .eql tx (iZ E x) (iZ E y)); pure (.value r) : Sem Next).run P W = _
 rw [i, j]; simp [c W, h W]
theorem Eu {tx tv : TypeId} {x y : Operand} {a b : Array Value} {r : Bool} (i : iZ E x = .agg a) (j : iZ E y = .agg b) (c : ∀ W, (eqGuard .neq tx x y (.agg a) (.agg b)).run P W = .ok () W) (h : ∀ W, (binOp .neq tx (.agg a) (.agg b)).run P W = .ok (.bool r) W) : kq P E ⟨d, .binOp .neq tx x y tv, ty, pos, af, g⟩ W (.bool r) W := by
 show (do let r ← (do eqGuard .neq tx x y (iZ E x) (iZ E y); binOp .neq tx (iZ E x) (iZ E y)); pure (.value r) : Sem Next).run P W = _
 rw [i, j]; simp [c W, h W]
theorem AQ {t e : TypeId} (dd : Nat) (c : P.underlying t = some (.pointer e)) (a : Option Addr) (W : World) : (Op.equalIn (dd + 1) t (.pointer a) (.pointer none)).run P W = .ok a.isNone W := by
 cases a <;> simp [Op.equalIn, ar c]
theorem qS {tx tv e : TypeId} {x y : Operand} {a : Option Addr} (h : P.underlying tx = some (.pointer e)) (i : iZ E x = .pointer a) (j : iZ E y = .pointer none) :
  kq P E ⟨d, .binOp .eql tx x y tv, ty, pos, af, g⟩ W (.bool a.isNone) W := by
 show (do let r ← (do eqGuard .eql tx x y (iZ E x) (iZ E y); binOp .eql tx (iZ E x) (iZ E y)); pure (.value r) : Sem Next).run P W = _
 rw [i, j]
 have c := AQ 9999 h a W
 simp [eqGuard, binOp, Op.equal, show Op.maxDepth = 9999 + 1 from rfl, c]
theorem zI {tx tv e : TypeId} {x y : Operand} {a : Option Addr} (h : P.underlying tx = some (.pointer e)) (i : iZ E x = .pointer a) (j : iZ E y = .pointer none) :
  kq P E ⟨d, .binOp .neq tx x y tv, ty, pos, af, g⟩ W (.bool !a.isNone) W := by
 show (do let r ← (do eqGuard .neq tx x y (iZ E x) (iZ E y); binOp .neq tx (iZ E x) (iZ E y)); pure (.value r) : Sem Next).run P W = _
 rw [i, j]
 have c := AQ 9999 h a W
 simp [eqGuard, binOp, Op.equal, show Op.maxDepth = 9999 + 1 from rfl, c]
theorem mF {x : Operand} {t : TypeId} {s : ByteArray} (a : P.underlying t = some .string) (c : iZ E x = .string s) : kq P E ⟨d, .call ⟨.builtin .len, #[x], #[t]⟩, ty, pos, af, g⟩ W (.int .i64 s.size) W := by
 show (do let d ← resolve (iZ E) ⟨.builtin .len, #[x], #[t]⟩ ty; invoke d.target d.args : Sem Next).run P W = _
 simp [resolve, invoke, builtin, Builtin.len_, ar a, c, goInt]
theorem yq {x : Operand} {t e : TypeId} {A : Option Addr} {l c : Nat} (a : P.underlying t = some (.slice e)) (h : iZ E x = .slice A l c) : kq P E ⟨d, .call ⟨.builtin .len, #[x], #[t]⟩, ty, pos, af, g⟩ W (.int .i64 l) W := by
 show (do let d ← resolve (iZ E) ⟨.builtin .len, #[x], #[t]⟩ ty; invoke d.target d.args : Sem Next).run P W = _
 simp [resolve, invoke, builtin, Builtin.len_, ar a, h, goInt]
theorem jO {α : Type} {R : py α} {k : Nat} {m : jw} {x : Operand} {t e : TypeId} {v : Value} {l : List α} (h : P.underlying t = some (.slice e)) (i : iZ E x = v) (a : Sl R k m v l) : kq P E ⟨d, .call ⟨.builtin .len, #[x], #[t]⟩, ty, pos, af, g⟩ W (.int .i64 l.length) W := by
 obtain ⟨A, c, rfl, _⟩ := a
 exact yq h i
theorem zK {t : TypeId} {x a : Operand} {o : IntKind} {s : ByteArray} {i : Int} {c : UInt8} (m : P.underlying t = some .string) (n : iZ E x = .string s) (j : iZ E a = .int o i) (h : 0 ≤ i) (k : s[i.toNat]? = some c) :
  kq P E ⟨d, .index t x a, ty, pos, af, g⟩ W (.int .u8 c.toNat) W := by
 show (do pure (.value (← Instr.index t (iZ E x) (iZ E a))) : Sem Next).run P W = _
 rw [n, j]
 simp [Instr.index, asIntOf, ar m, h, k]
def kD (P : Program) (t : TypeId) (f off : Nat) : Prop := ∀ b o w, (Instr.fieldAt t (.pointer (some ⟨b, o, none⟩)) f).run P w = .ok (.pointer (some ⟨b, o + off, none⟩)) w
theorem iY {t : TypeId} {x : Operand} {f off b o : Nat} (a : kD P t f off) (c : iZ E x = .pointer (some ⟨b, o, none⟩)) : kq P E ⟨d, .fieldAddr t x f, ty, pos, af, g⟩ W (.pointer (some ⟨b, o + off, none⟩)) W := by
 show (do pure (.value (← Instr.fieldAt t (iZ E x) f)) : Sem Next).run P W = _
 rw [c]; simp [a b o W]
theorem vK {t : TypeId} {x : Operand} {f off : Nat} {v : Value} {ys : List Value} (a : List Value) (k : kD P t f off) (p : iZ E x = v) (n : At μ v ys) (q : (ys.drop off).take a.length = a) :
  ∃ h, At μ h a ∧ ∀ W, kq P E ⟨d, .fieldAddr t x f, ty, pos, af, g⟩ W h W := by
 obtain ⟨b, o, cs, T, fr, rfl, h1, i⟩ := n
 refine ⟨_, ⟨b, o + off, cs, T, fr, rfl, h1, fun j y c => ?_⟩, fun W => iY k p⟩
 have m : j < a.length := (aF.1 c).1
 have := i (off + j) y (by
  rw [← q, cy m, cq] at c
  exact c)
 rw [dz]
 exact this
theorem lb {x : Operand} {a : Addr} (c : iZ E x = .pointer (some a)) : kq P E ⟨d, .nilCheck x, ty, pos, af, g⟩ W (.pointer (some a)) W := by
 unfold kq execOp
 simp [c]
theorem GY {α : Type} {R : py α} {k : Nat} {t e : TypeId} {x h : Operand} {U : IntKind} {v : Value} {i : Int} {l : List α} {x0 : α} (L : P.underlying t = some (.slice e)) (he : ∀ w, (sizeOf e).run P w = .ok k w) (M : iZ E x = v) (G : iZ E h = .int U i) (J : Sl R k μ v l) (n : 0 ≤ i) (m : l[i.toNat]? = some x0) :
  ∃ p ys, ys.length = k ∧ R μ ys x0 ∧ At μ p ys ∧ ∀ W, kq P E ⟨d, .indexAddr t x h, ty, pos, af, g⟩ W p W := by
 obtain ⟨A, c, rfl, Y, Z, o⟩ := J
 have I : i.toNat < l.length := (aF.1 m).1
 obtain ⟨b, off, cs, T, fr, rfl, q, s⟩ := o (by omega)
 obtain ⟨ys, u, z, a⟩ := s i.toNat x0 m
 refine ⟨.pointer (some ⟨b, off + i.toNat * k, none⟩), ys, u, z, ⟨b, off + i.toNat * k, cs, T, fr, rfl, q, fun j y Q => a j y Q⟩, fun W => ?_⟩
 show (do pure (.value (← Instr.indexAt t (iZ E x) (iZ E h))) : Sem Next).run P W = _
 rw [M, G]
 have D : 0 ≤ i ∧ i < (l.length : Int) := ⟨n, by omega⟩
 simp [Instr.indexAt, asIntOf, ar L, he W, D, bZ]
theorem kk {α : Type} {enc : α → List Value} {k : Nat} {t e : TypeId} {x a : Operand} {y : IntKind} {v : Value} {i : Int} {l : List α} {x0 : α} (s : P.underlying t = some (.slice e)) (he : ∀ w, (sizeOf e).run P w = .ok k w) (u : iZ E x = v) (n : iZ E a = .int y i) (q : Sl (Pl enc) k μ v l) (c : 0 ≤ i) (o : l[i.toNat]? = some x0) :
  ∃ p, At μ p (enc x0) ∧ ∀ W, kq P E ⟨d, .indexAddr t x a, ty, pos, af, g⟩ W p W := by
 obtain ⟨p, ys, h1, h, j, m⟩ := GY (d := d) (ty := ty) (pos := pos) (af := af) (g := g) s he u n q c o
 cases h
 exact ⟨p, j, m⟩
theorem HL (P : Program) {W : World} {b off : Nat} {cs : Array Value} {T : TypeId} {fr : Nat × Nat} (a : W.heap[b]? = some (.cells cs T fr)) (ys : List Value) (d : ∀ j y, ys[j]? = some y → cs[off + j]? = some y) :
  (loadCells ⟨b, off, none⟩ ys.length).run P W = .ok ys.toArray W :=
 gv W ⟨b, off, none⟩ ys (fun j v c => by rw [bZ, ec W b (off + j) cs T fr a]; exact d j v c)
theorem BB {W : World} {t : TypeId} {b off : Nat} {cs : Array Value} {T : TypeId} {fr : Nat × Nat} (a : ∀ w, (isAgg t).run P w = .ok true w) (ys : List Value) (c : ∀ w, (sizeOf t).run P w = .ok ys.length w) (d : W.heap[b]? = some (.cells cs T fr)) (g : ∀ j y, ys[j]? = some y → cs[off + j]? = some y) : (Instr.loadAt t (.pointer (some ⟨b, off, none⟩))).run P W = .ok (.agg ys.toArray) W := by
 simp [Instr.loadAt, Instr.sureAddr, loadVar, a W, c W, HL P d ys g]
theorem Bq {W : World} {t : TypeId} {b off : Nat} {cs : Array Value} {T : TypeId} {fr : Nat × Nat} (a : ∀ w, (isAgg t).run P w = .ok false w) {y : Value} (c : W.heap[b]? = some (.cells cs T fr)) (g : cs[off]? = some y) : (Instr.loadAt t (.pointer (some ⟨b, off, none⟩))).run P W = .ok y W := by
 have d : W.cell? ⟨b, off, none⟩ = some y := by rw [ec W b off cs T fr c]; exact g
 simp [Instr.loadAt, Instr.sureAddr, loadVar, a W, load, Sem.run, d]
theorem iW {t : TypeId} {x : Operand} {a v : Value} (h : iZ E x = a) (c : (Instr.loadAt t a).run P W = .ok v W) : kq P E ⟨d, .load t x, ty, pos, af, g⟩ W v W := by
 show (do pure (.value (← Instr.loadAt t (iZ E x))) : Sem Next).run P W = _
 rw [h]; simp [c]
def qg (μ : jw) (A : List (Nat × Obj)) (W : World) : Prop := (∀ b o, μ b = some o → W.heap[b]? = some o) ∧ ∀ b o, (b, o) ∈ A → W.heap[b]? = some o
theorem ST.has (h : ST dd F w W μ L) : qg μ L W := ⟨h.mem, fun b o a => (h.box b o a).1⟩
theorem qg.sub {μ' : jw} {A A' : List (Nat × Obj)} (h : qg μ A W) (d : js μ' μ) (c : ∀ p, p ∈ A' → p ∈ A) : qg μ' A' W := ⟨fun b o a => h.1 b o (d b o a), fun b o a => h.2 b o (c _ a)⟩
theorem jX {A : List (Nat × Obj)} (hH : qg μ A W) {t : TypeId} {p : Value} {ys : List Value} (hp : At μ p ys) (c : ∀ w, (isAgg t).run P w = .ok true w) (d : ∀ w, (sizeOf t).run P w = .ok ys.length w) :
  (Instr.loadAt t p).run P W = .ok (.agg ys.toArray) W := by
 obtain ⟨b, off, cs, T, fr, rfl, h1, a⟩ := hp
 exact BB c ys d (hH.1 _ _ h1) a
theorem lC {A : List (Nat × Obj)} (hH : qg μ A W) {t : TypeId} {p y : Value} (hp : At μ p [y]) (c : ∀ w, (isAgg t).run P w = .ok false w) :
  (Instr.loadAt t p).run P W = .ok y W := by
 obtain ⟨b, off, cs, T, fr, rfl, h1, a⟩ := hp
 exact Bq c (hH.1 _ _ h1) (a 0 y rfl)
theorem jc {A : List (Nat × Obj)} (hH : qg μ A W) {t : TypeId} {b off : Nat} {cs : Array Value} {T : TypeId} {fr : Nat × Nat} (g : (b, Obj.cells cs T fr) ∈ A) (ys : List Value) (i : (cs.toList.drop off).take ys.length = ys) (d : ∀ w, (isAgg t).run P w = .ok true w) (h : ∀ w, (sizeOf t).run P w = .ok ys.length w) : (Instr.loadAt t (.pointer (some ⟨b, off, none⟩))).run P W = .ok (.agg ys.toArray) W :=
 BB d ys h (hH.2 _ _ g) (fun j y a => by
  have c : j < ys.length := (aF.1 a).1
  rw [← i, cy c, cq] at a
  simpa using a)
theorem jg {A : List (Nat × Obj)} (hH : qg μ A W) {t : TypeId} {b off : Nat} {cs : Array Value} {T : TypeId} {fr : Nat × Nat} (c : (b, Obj.cells cs T fr) ∈ A) {y : Value} (d : cs[off]? = some y) (a : ∀ w, (isAgg t).run P w = .ok false w) : (Instr.loadAt t (.pointer (some ⟨b, off, none⟩))).run P W = .ok y W :=
 Bq a (hH.2 _ _ c) d
theorem kT {t : TypeId} {a : Array (Nat × Operand)} {c : Array (Nat × Value)} {v : Value} (h : a.map (fun (i, x) => (i, iZ E x)) = c) (j : ∀ W, (Instr.build t c).run P W = .ok v W) : kq P E ⟨d, .build t a, ty, pos, af, g⟩ W v W := by
 show (do pure (.value (← Instr.build t (a.map fun (i, x) => (i, iZ E x)))) : Sem Next).run P W = _
 rw [h]; simp [j W]
theorem ku {t : TypeId} {z cs : Array Value} {a : Array Field} {c : Array (Nat × Value)} {pl : Array (Nat × Nat)} (h : ∀ w, (zeroValue t).run P w = .ok (.agg z) w) (g : P.underlying t = some (.struct a)) (hp : ∀ w, (a.mapM fun f => do pure (f.offset, ← sizeOf f.type) : Sem (Array (Nat × Nat))).run P w = .ok pl w) (d : Instr.fill (pl[·]?) z c.toList = some cs) (W : World) : (Instr.build t c).run P W = .ok (.agg cs) W := by
 simp only [Instr.build, aZ, h W, aN, ar g, Value.cells]
 rw [hp W]
 simp only [aN, d, bP]
end
theorem D4 {α : Type} : ∀ (a : Ask α) (w : World), w.drawn ≤ (w.ask a).2.drawn
 | .done a, w => by simp [World.ask]
 | .ask c range k, w => by
  unfold World.ask
  dsimp only
  split
  ·exact D4 (k 0) w
  ·refine cn (gN w.drawn) ?_
   exact D4 _ { w with drawn := w.drawn + 1 }
theorem M5 (w : World) (c : Sys) : w.drawn ≤ (w.sys c).2.drawn := by
 have h := D4 (Kernel.perform c w.os) w
 unfold World.sys
 generalize w.ask (Kernel.perform c w.os) = r at *
 obtain ⟨⟨a, d⟩, g⟩ := r
 cases a <;> simp at h ⊢ <;> exact h
theorem FU {p : Program} {w c : World} {a : Addr} {u : TypeId} {k : Addr} {v : Value} {b : Bool} {l : List Addr} (h : w.viewStore p a u k v b = .ok (c, l)) : c.drawn = w.drawn := by
 unfold World.viewStore at h
 simp only [bind, Except.bind, pure, Except.pure] at h
 split at h
 ·cases h
 ·split at h
  ·cases h
  ·split at h
   ·split at h
    ·cases h
    ·split at h
     ·cases h
     ·cases h; rfl
   ·cases h
theorem G3 {p : Program} {w c : World} {a : Addr} {v : Value} {b : Bool} {l : List Addr} (h : w.farStore p a v b = .ok (c, l)) : c.drawn = w.drawn := by
 unfold World.farStore at h
 split at h
 ·split at h
  ·rename_i h1; cases h; exact FU h1
  ·cases h
 ·cases h
theorem mS {α : Type} {p : Program} : ∀ (s : Sem α) (w d : World) (a : α), s.run p w = .ok a d → w.drawn ≤ d.drawn
 | .pure a, w, d, b, h => by simp only [Sem.run] at h; cases h; exact aJ _
 | .load m a k, w, d, b, h => by
  simp only [Sem.run] at h
  split at h
  ·exact mS _ _ _ _ h
  ·split at h
   ·exact mS _ _ _ _ h
   ·cases h
 | .store m a v k, w, d, b, h => by
  have key : ∀ (r : Result α) i, r = .ok b d → (r = (match w.cell? a with
    | some _ => if w.frozen? a then .halt i w else k.run p (w.setCell a v)
    | none => match w.farStore p a v (m == .atomic) with
     | .ok (w, _) => k.run p w
     | .error h => .halt h w)) → w.drawn ≤ d.drawn := by
   intro r i j h
   rw [j] at h
   split at h
   ·split at h
    ·cases h
    ·have := mS k _ _ _ h.symm
     simpa [World.setCell] using this
   ·split at h
    ·rename_i h1
     have g := mS k _ _ _ h.symm
     rw [G3 h1] at g
     exact g
    ·cases h
  cases v with
  | agg cs => simp only [Sem.run] at h; cases h
  | tuple cs => simp only [Sem.run] at h; cases h
  | _ => exact key _ _ h (by simp only [Sem.run]; rfl)
 | .new o k, w, d, b, h => by simp only [Sem.run] at h; have := mS (k _) _ _ _ h; exact this
 | .shape r k, w, d, b, h => by simp only [Sem.run] at h; exact mS _ _ _ _ h
 | .freeze a n k, w, d, b, h => by
  simp only [Sem.run] at h
  have := mS k _ _ _ h
  unfold World.freeze at this
  split at this <;> exact this
 | .frozen a k, w, d, b, h => by simp only [Sem.run] at h; exact mS _ _ _ _ h
 | .getObj r k, w, d, b, h => by
  simp only [Sem.run] at h
  split at h <;> try (cases h; done)
  exact mS _ _ _ _ h
 | .setObj r o k, w, d, b, h => by
  simp only [Sem.run] at h
  split at h <;> try (cases h; done)
  have := mS k _ _ _ h
  exact this
 | .choose q k, w, d, b, h => by
  simp only [Sem.run] at h
  split at h
  ·exact mS _ _ _ _ h
  ·exact cn (gN _) (mS _ _ _ _ h)
 | .sys c k, w, d, b, h => by
  simp only [Sem.run] at h
  exact cn (M5 w c) (mS _ _ _ _ h)
 | .program k, w, d, b, h => by simp only [Sem.run] at h; exact mS _ _ _ _ h
 | .mark m k, w, d, b, h => by simp only [Sem.run] at h; exact mS k _ _ _ h
 | .halt x, w, d, b, h => by simp only [Sem.run] at h; cases h
end Go.Proofs.YtbnbdigcbldfhaaGreat
namespace Go.Proofs.YtbnbdigcbldfhaaGreat
open Go.RowKit
variable {dd : Bool}
section
variable {P : Program} {n : Nat} {Q : mo} {E : Nat → Value} {W : World} {ops : Array Oper} {rest : List Oper}
 {d : Option Nat} {ty : TypeId} {pos : String} {af : Array Edge} {g : Option (Nat × Bool)}
 {F : Nat → Prop} {w : World} {μ : jw} {L : List (Nat × Obj)}
def lD (P : Program) (E : Nat → Value) (o : Oper) (W : World) (K : Value → World → Prop) : Prop :=
 (∃ v W', (execOp (iZ E) o).run P W = .ok (.value v) W' ∧ K v W') ∨ (∃ W', (execOp (iZ E) o).run P W = .ok .skip W' ∧ K undef W') ∨
 (∃ f args, (execOp (iZ E) o).run P W = .ok (.enter f args) W ∧ Calls P f args W fun e a => ∃ v, e = .returned v ∧ K v a)
theorem lD.mono {o : Oper} {K K' : Value → World → Prop} (h : lD P E o W K) (hk : ∀ v W', K v W' → K' v W') : lD P E o W K' := by
 rcases h with ⟨v, W', h1, a⟩ | ⟨W', h1, a⟩ | ⟨f, args, h1, a⟩
 ·exact .inl ⟨v, W', h1, hk _ _ a⟩
 ·exact .inr (.inl ⟨W', h1, hk _ _ a⟩)
 ·exact .inr (.inr ⟨f, args, h1, bp a (fun _ _ ⟨v, c, d⟩ => ⟨v, c, hk _ _ d⟩)⟩)
theorem Qv {o : Oper} {dd : Nat} (hw : lq n ops E o) (g : o.dst = some dd) (i : dd < n) (h : lD P E o W fun v W' => LW P n ops Q rest (lz E dd v) W') : LW P n ops Q (o :: rest) E W := by
 rcases h with ⟨v, W', h1, c⟩ | ⟨W', h1, c⟩ | ⟨f, args, h1, c⟩
 ·exact Ni hw g i h1 c
 ·intro a d
  unfold wpList
  rw [aq (hw.of d)]
  refine .inl ?_
  unfold Oper.wp
  rw [d.eval, h1, dC, g]
  exact c _ (d.put i _)
 ·exact OI hw g i h1 c
theorem Sg {o : Oper} (hw : lq n ops E o) (g : o.dst = none) (h : lD P E o W fun _ W' => LW P n ops Q rest E W') : LW P n ops Q (o :: rest) E W := by
 rcases h with ⟨v, W', h1, d⟩ | ⟨W', h1, d⟩ | ⟨f, args, h1, d⟩
 ·intro a c
  unfold wpList
  rw [aq (hw.of c)]
  refine .inl ?_
  unfold Oper.wp
  rw [c.eval, h1, cQ, g]
  exact d _ (c.tN _)
 ·exact Oe hw g h1 d
 ·intro a c
  unfold wpList
  rw [aq (hw.of c)]
  refine .inl ?_
  unfold Oper.wp
  rw [c.eval, h1, cR]
  refine bp d ?_
  rintro e j ⟨v, rfl, i⟩
  simp only [g]
  exact i _ (c.tN _)
theorem jF {K : Value → World → Prop} {t : TypeId} {x : Operand} {v : Value} (a : ST dd F w W μ L) (c : iZ E x = v) (h : ∀ W' b, ST dd F w W' μ ((b, .cells v.cells t (0, 0)) :: L) → K (.pointer (some ⟨b, 0, none⟩)) W') : lD P E ⟨d, .box t x, ty, pos, af, g⟩ W K :=
 .inl ⟨.pointer (some ⟨W.heap.size, 0, none⟩), W.alloc (.cells v.cells t (0, 0)), by
   show (do pure (.value (← Instr.box t (iZ E x))) : Sem Next).run P W = _
   rw [c]
   simp [Instr.box, newVar, newRow, newObj, Sem.run], h _ _ (a.alloc _)⟩
theorem jK {K : Value → World → Prop} {t : TypeId} {z : Value} (a : ST dd F w W μ L) (c : ∀ w, (zeroValue t).run P w = .ok z w) (h : ∀ W' b, ST dd F w W' μ ((b, .cells z.cells t (0, 0)) :: L) → K (.pointer (some ⟨b, 0, none⟩)) W') : lD P E ⟨d, .alloc t, ty, pos, af, g⟩ W K :=
 .inl ⟨.pointer (some ⟨W.heap.size, 0, none⟩), W.alloc (.cells z.cells t (0, 0)), by
   show (do pure (.value (← Instr.alloc t true (.tuple #[]))) : Sem Next).run P W = _
   simp [Instr.alloc, c W, newVar, newRow, newObj, Sem.run], h _ _ (a.alloc _)⟩
theorem Gx {t e : TypeId} {m k : Nat} {z : Value} {d : Array (Nat × Value)} {cs : Array Value} (h : P.underlying t = some (.slice e)) (g : ∀ w, (sizeOf e).run P w = .ok k w) (j : ∀ w, (zeroValue e).run P w = .ok z w) (hm : m * k ≤ 16777216) (a : Instr.fill (fun i => some (i * k, k)) ((Array.range (m * k)).map (fun i => (if m * k = 0 then (#[] : Array Value) else z.cells)[i % (if m * k = 0 then (#[] : Array Value) else z.cells).size]!)) d.toList = some cs) (W : World) :
  (Instr.buildSlice t m d).run P W = .ok (.slice (some ⟨W.heap.size, 0, none⟩) m m) (W.alloc (.cells cs e (0, 0))) := by
 simp only [Instr.buildSlice, aZ, ar h, aN, g W]
 rw [ap (by omega)]
 by_cases c : m * k = 0
 ·simp only [c, aK] at a ⊢
  simp only [aZ, bP, aN, a]
  simp [newRow, newObj, Sem.run]
 ·simp only [c, aA] at a ⊢
  simp only [aZ, j W, bP, aN, a]
  simp [newRow, newObj, Sem.run]
theorem jS {K : Value → World → Prop} {t e : TypeId} {m : Nat} {c : Array (Nat × Operand)} {j : Array (Nat × Value)} {cs : Array Value} (a : ST dd F w W μ L) (k : c.map (fun (i, x) => (i, iZ E x)) = j) (n : ∀ W, (Instr.buildSlice t m j).run P W = .ok (.slice (some ⟨W.heap.size, 0, none⟩) m m) (W.alloc (.cells cs e (0, 0)))) (h : ∀ W' b, ST dd F w W' μ ((b, .cells cs e (0, 0)) :: L) → K (.slice (some ⟨b, 0, none⟩) m m) W') : lD P E ⟨d, .buildSlice t m c, ty, pos, af, g⟩ W K :=
 .inl ⟨.slice (some ⟨W.heap.size, 0, none⟩) m m, W.alloc (.cells cs e (0, 0)), by
   show (do pure (.value (← Instr.buildSlice t m (c.map fun (i, x) => (i, iZ E x)))) : Sem Next).run P W = _
   rw [k]
   simp [n W], h _ _ (a.alloc _)⟩
theorem ST.store {A B : List (Nat × Obj)} {b : Nat} {cs : Array Value} {t : TypeId} (a : ST dd F w W μ (A ++ (b, .cells cs t (0, 0)) :: B)) (cs' : Array Value) :
  ST dd F w (W.setRow b cs') μ (A ++ (b, .cells cs' t (0, 0)) :: B) := by
 have c := (a.box b _ (by simp : (b, Obj.cells cs t (0, 0)) ∈ A ++ (b, .cells cs t (0, 0)) :: B)).1
 refine a.put ⟨rfl, rfl, rfl, aJ _, by simp [World.setRow]⟩ (fun k hk => ?_) (setRow_heap W b cs cs' t (0, 0) c)
 simp only [World.setRow, cI]
 rw [ap (fun e => hk e.symm)]
theorem BF (P : Program) {W : World} {t : TypeId} {b off : Nat} {cs : Array Value} {T : TypeId} (v : Value) (a : ∀ w, (sizeOf t).run P w = .ok v.cells.size w) (h1 : ∀ u ∈ v.cells.toList, u.oneCell' = true) (c : W.heap[b]? = some (.cells cs T (0, 0))) (d : off + v.cells.size ≤ cs.size) : (Instr.storeAt t (.pointer (some ⟨b, off, none⟩)) v).run P W = .ok () (W.setRow b (cs.toList.take off ++ v.cells.toList ++ cs.toList.drop (off + v.cells.size)).toArray) := by
 have := gO (P := P) b off T v.cells.toList 0 cs W c (by simpa using d) h1
 simp [Instr.storeAt, Instr.sureAddr, storeVar, a W]
 simpa using this
theorem zU {K : Value → World → Prop} (A : List (Nat × Obj)) {B : List (Nat × Obj)} {t : TypeId} {x y : Operand} (v : Value) {b off : Nat} {cs : Array Value} {T : TypeId} (cs' : Array Value) (a : ST dd F w W μ (A ++ (b, .cells cs T (0, 0)) :: B)) (m : iZ E x = .pointer (some ⟨b, off, none⟩)) (n : iZ E y = v) (c : ∀ w, (sizeOf t).run P w = .ok v.cells.size w) (h1 : ∀ u ∈ v.cells.toList, u.oneCell' = true) (k : off + v.cells.size ≤ cs.size) (j : (cs.toList.take off ++ v.cells.toList ++ cs.toList.drop (off + v.cells.size)).toArray = cs') (h : ∀ W', ST dd F w W' μ (A ++ (b, .cells cs' T (0, 0)) :: B) → K undef W') : lD P E ⟨d, .store t x y, ty, pos, af, g⟩ W K :=
 .inr (.inl ⟨W.setRow b cs', by
   show (do Instr.storeAt t (iZ E x) (iZ E y); pure .skip : Sem Next).run P W = _
   have i := (a.box b _ (by simp : (b, Obj.cells cs T (0, 0)) ∈ A ++ (b, .cells cs T (0, 0)) :: B)).1
   rw [m, n]
   simp only [aZ, BF P v c h1 i k, j, aN, bP], h _ (a.store cs')⟩)
def jv (dd : Bool) (P : Program) (f : FuncId) (args : List Value) (w : World) (v : Value) : Prop := Calls P f args.toArray w fun e a => e = .returned v ∧ Ex dd w a
theorem Hq {f : FuncId} {fv : Operand} {ax : Array Operand} {ats : Array TypeId} {caps args : Array Value} (c : iZ E fv = .func (.func f) #[] caps) (he : ∀ args w, (callFunc f args).run P w = .ok (.enter f args) w) (a : ax.map (iZ E) ++ caps = args) :
  (execOp (iZ E) ⟨d, .call ⟨.value fv, ax, ats⟩, ty, pos, af, g⟩).run P W = .ok (.enter f args) W := by
 show (do let d ← resolve (iZ E) ⟨.value fv, ax, ats⟩ ty; invoke d.target d.args : Sem Next).run P W = _
 rw [← a]
 simp only [resolve, c, Deferred.ofValue, aZ, bP, aN, invoke]
 simp [he]
theorem Ef {K : Value → World → Prop} {f : FuncId} {fv : Operand} {ax : Array Operand} {ats : Array TypeId} {caps args : Array Value} (c : iZ E fv = .func (.func f) #[] caps) (he : ∀ args w, (callFunc f args).run P w = .ok (.enter f args) w) (a : ax.map (iZ E) ++ caps = args) (h : Calls P f args W fun e i => ∃ v, e = .returned v ∧ K v i) : lD P E ⟨d, .call ⟨.value fv, ax, ats⟩, ty, pos, af, g⟩ W K :=
 .inr (.inr ⟨f, args, Hq c he a, h⟩)
theorem PI {K : Value → World → Prop} {f : FuncId} {fv : Operand} {ax : Array Operand} {ats : Array TypeId} {args : List Value} {v : Value} (a : ST dd F w W μ L) (k : iZ E fv = .func (.func f) #[] #[]) (he : ∀ args w, (callFunc f args).run P w = .ok (.enter f args) w) (i : (ax.map (iZ E) ++ (#[] : Array Value)) = args.toArray) (j : jv dd P f args W v) (h : ∀ W', ST dd F w W' μ L → K v W') : lD P E ⟨d, .call ⟨.value fv, ax, ats⟩, ty, pos, af, g⟩ W K :=
 Ef k he i (bp j (fun _ _ ⟨h1, c⟩ => ⟨v, h1, h _ (a.Ej c)⟩))
def jl {α : Type} (e : TypeId) (enc : α → List Value) (k : Nat) (v : Value) (l : List α) (R : List (Nat × Obj)) : Prop :=
 (v = .slice none 0 0 ∧ l = [] ∧ R = []) ∨
 ∃ g cap a, v = .slice (some ⟨g, 0, none⟩) l.length cap ∧ R = [(g, .cells a e (0, 0))] ∧ l.length ≤ cap ∧ cap ≤ maxLen ∧ a.size = cap * k ∧ a.toList.take (l.length * k) = (l.map enc).flatten
theorem ns {α : Type} {enc : α → List Value} {k : Nat} (hk : ∀ x, (enc x).length = k) : ∀ l : List α, (l.map enc).flatten.length = l.length * k
 | [] => by simp
 | x :: l => by simp [ns hk l, hk x, bn, iu]
theorem vH {α : Type} {enc : α → List Value} {k : Nat} (hk : ∀ x, (enc x).length = k) : ∀ (l : List α) (i : Nat) (x : α), l[i]? = some x → ∀ j y, (enc x)[j]? = some y → (l.map enc).flatten[i * k + j]? = some y
 | [], i, x, h => by cases h
 | z :: l, 0, x, h => by
  simp at h; subst h
  intro j y a
  have c : j < (enc z).length := (aF.1 a).1
  simp [ed, c]
  rw [bq c] at a
  simpa using a
 | z :: l, i + 1, x, h => by
  intro j y a
  have := vH hk l i x (by simpa using h) j y a
  simp only [aO, cA]
  rw [ee (by rw [hk z]; have := Nat.le_mul_of_pos_left k (Nat.succ_pos i); simp [bn] at *; omega), hk z]
  rw [show (i + 1) * k + j - k = i * k + j by rw [bn]; omega]
  exact this
theorem Fk {α : Type} {enc : α → List Value} {k : Nat} (hk : ∀ x, (enc x).length = k) : ∀ (l : List α) (q : Nat) (y : Value), (l.map enc).flatten[q]? = some y → ∃ i x j, l[i]? = some x ∧ (enc x)[j]? = some y ∧ q = i * k + j
 | [], q, y, h => by simp at h
 | z :: l, q, y, h => by
  simp only [aO, cA] at h
  by_cases c : q < k
  ·rw [List.getElem?_append_left (by rw [hk]; exact c)] at h
   exact ⟨0, z, q, rfl, h, by simp⟩
  ·rw [ee (by rw [hk]; omega), hk] at h
   obtain ⟨i, x, j, h1, a, d⟩ := Fk hk l (q - k) y h
   exact ⟨i + 1, x, j, by simpa using h1, a, by rw [bn]; omega⟩
theorem jl.nil {α : Type} (e : TypeId) (enc : α → List Value) (k : Nat) : jl e enc k (.slice none 0 0) [] [] := .inl ⟨rfl, rfl, rfl⟩
theorem jl.sl {α : Type} {e : TypeId} {enc : α → List Value} {k : Nat} {v : Value} {l : List α} {R : List (Nat × Obj)} {m : jw} (h : jl e enc k v l R) (hk : ∀ x, (enc x).length = k) (hm : ∀ b o, (b, o) ∈ R → m b = some o) : Sl (Pl enc) k m v l := by
 rcases h with ⟨rfl, rfl, rfl⟩ | ⟨g, cap, a, rfl, rfl, h1, d, s, n⟩
 ·exact Sl.nil _ _ _
 ·refine ⟨_, cap, rfl, h1, d, fun _ => ⟨g, 0, a, e, (0, 0), rfl, hm _ _ (by simp), fun i x p => ⟨enc x, hk x, rfl, fun j y q => ?_⟩⟩⟩
  have := vH hk l i x p j y q
  rw [← n] at this
  have c : i * k + j < l.length * k := by
   have := (aF.1 this).1
   simp at this; omega
  rw [cy c] at this
  simpa using this
theorem jl.len {α : Type} {e : TypeId} {enc : α → List Value} {k : Nat} {v : Value} {l : List α} {R : List (Nat × Obj)} (h : jl e enc k v l R) : l.length ≤ 9223372036854775807 := by
 rcases h with ⟨rfl, rfl, rfl⟩ | ⟨g, cap, a, rfl, rfl, h1, c, d, i⟩
 ·simp
 ·unfold maxLen at c; omega
theorem jl.fr {α : Type} {e : TypeId} {enc : α → List Value} {k : Nat} {v : Value} {l : List α} {R X Y : List (Nat × Obj)} (h : jl e enc k v l R) (a : ST dd jD w W μ (X ++ (R ++ Y))) : Fr w.heap.size v := by
 rcases h with ⟨rfl, rfl, rfl⟩ | ⟨g, cap, d, rfl, rfl, h1, i, j, m⟩
 ·exact Fr.nil _
 ·intro b c
  simp [Value.ownBlock] at c
  subst c
  rcases (a.box g _ (by simp; exact .inr (.inl rfl))).2.2 with h | h
  ·exact h
  ·exact h.elim
theorem jl.lit {α : Type} {e : TypeId} {enc : α → List Value} {k b m : Nat} {l : List α} {cs : Array Value} (hm : l.length = m) (c : m ≤ maxLen) (d : cs.toList = (l.map enc).flatten) (a : cs.size = m * k) : jl e enc k (.slice (some ⟨b, 0, none⟩) m m) l [(b, .cells cs e (0, 0))] := by
 subst hm
 refine .inr ⟨b, _, cs, rfl, rfl, aJ _, c, a, ?_⟩
 rw [← d, ← a]
 exact bU (by rw [bL]; exact aJ _)
def kR {α : Type} (a : Nat) (l m : List α) : Option (List α) := if (l.length + m.length) * a ≤ 140737488355328 ∧ l.length + m.length ≤ maxLen then some (l ++ m) else none
theorem II {K : Value → World → Prop} {α : Type} {e t : TypeId} {enc : α → List Value} {k ao : Nat} {z v vs : Value} {l m r : List α} {R : List (Nat × Obj)} (X : List (Nat × Obj)) {Y : List (Nat × Obj)} {x y : Operand} {i : TypeInfo} (p : ST dd F w W μ (X ++ (R ++ Y))) (hk : ∀ x, (enc x).length = k) (c9 : 0 < k) (h1 : ∀ x, ∀ u ∈ enc x, u.oneCell' = true) (ht : P.underlying t = some (.slice e)) (hi : P.info? e = some i) (hz : i.zero = some z) (cf : z.cells.size = k) (ca : i.size = k) (c7 : i.bytes = ao) (hx : iZ E x = v) (hy : iZ E y = vs) (hR : jl e enc k v l R) (hs : Sl (Pl enc) k (hp W) vs m) (n : kR ao l m = some r) (h : ∀ W' v' R', ST dd F w W' μ (X ++ (R' ++ Y)) → jl e enc k v' r R' → K v' W') : lD P E ⟨d, .call ⟨.builtin .append, #[x, y], #[t, t]⟩, ty, pos, af, g⟩ W K := by
 unfold kR at n
 split at n
 case isFalse => cases n
 rename_i b2
 cases n
 have ab : ∀ (V : Value) (W' : World), (Builtin.append_ #[t, t] ty #[v, vs]).run P W = .ok V W' → (execOp (iZ E) ⟨d, .call ⟨.builtin .append, #[x, y], #[t, t]⟩, ty, pos, af, g⟩).run P W = .ok (.value V) W' := by
  intro V W' hV
  show (do let d ← resolve (iZ E) ⟨.builtin .append, #[x, y], #[t, t]⟩ ty; invoke d.target d.args : Sem Next).run P W = _
  simp [resolve, invoke, builtin, hx, hy, hV]
 obtain ⟨A, c, rfl, cp, cS, c8⟩ := hs
 have a8 : W.ownsRow 0 e k v l.length (l.map enc).flatten := by
  refine ⟨ns hk l, ?_⟩
  rcases hR with ⟨rfl, rfl, rfl⟩ | ⟨g, cap, I, rfl, rfl, h1, h2, h3, h4⟩
  ·exact .inl ⟨rfl, rfl⟩
  ·exact .inr ⟨g, cap, I, rfl, fX _, (p.box g _ (by simp)).1, h1, h2, h3, h4⟩
 have bs : m.length = 0 ∨ ∃ ad, A = some ad ∧ ∀ j u, (m.map enc).flatten[j]? = some u → W.cell? (ad.add j) = some u := by
  rcases cF m.length with M | M
  ·exact .inl M
  ·obtain ⟨b, off, cs, T, fr, rfl, h6, h7⟩ := c8 M
   refine .inr ⟨⟨b, off, none⟩, rfl, fun j u hu => ?_⟩
   obtain ⟨i, x, q, h8, h9, rfl⟩ := Fk hk m j u hu
   obtain ⟨ys, _, c3, c4⟩ := h7 i x h8
   cases c3
   rw [bZ, ec W b (off + (i * k + q)) cs T fr h6, ← dz]
   exact c4 q u h9
 have ba : ∀ u ∈ (m.map enc).flatten, u.oneCell' = true := by
  intro u hu
  obtain ⟨ys, cc, cb⟩ := fK.1 hu
  obtain ⟨x, _, rfl⟩ := aQ.1 cc
  exact h1 x u cb
 by_cases b6 : m.length = 0
 ·have hm : m = [] := aX b6
  subst hm
  have hr : (Builtin.append_ #[t, t] ty #[v, .slice A 0 c]).run P W = .ok v W := by
   rcases a8.2 with ⟨rfl, M⟩ | ⟨g, cap, I, rfl, _, hg, b7, _, dk, _⟩
   ·cases A with
    | none => simp [Builtin.append_, ar ht, sizeOf, typeInfo, hi, Builtin.lenOf, Builtin.firstCells]
    | some ad => simp [Builtin.append_, ar ht, sizeOf, typeInfo, hi, Builtin.lenOf, Builtin.firstCells, loadCells, loadCellsFrom]
   ·cases A with
    | none => simp [Builtin.append_, ar ht, sizeOf, typeInfo, hi, Builtin.lenOf, Builtin.firstCells, b7, storeCells]
    | some ad => simp [Builtin.append_, ar ht, sizeOf, typeInfo, hi, Builtin.lenOf, Builtin.firstCells, loadCells, loadCellsFrom, b7, storeCells]
  exact .inl ⟨v, W, ab _ _ (by simpa using hr), by simpa using h W v R p (by simpa using hR)⟩
 rcases bs with M | ⟨ad, rfl, a1⟩
 ·exact absurd M b6
 obtain ⟨v', W', hr, b0, s, cm, L⟩ := run_append_own_at (P := P) W 0 t ty e i z k ao ht hi hz ca c7 cf c9 v l.length (l.map enc).flatten a8 ad m.length c (m.map enc).flatten (ns hk m) a1 ba b2.2 b2.1 (fX _)
 have av := mS _ _ _ _ hr
 refine .inl ⟨v', W', ab _ _ hr, ?_⟩
 have hlen : (l ++ m).length = l.length + m.length := by simp
 rcases b0.2 with ⟨_, M⟩ | ⟨U, a6, a7, rfl, _, aE, ch, b3, b4, c0⟩
 ·omega
 have b1 : jl e enc k (.slice (some ⟨U, 0, none⟩) (l.length + m.length) a6) (l ++ m) [(U, .cells a7 e (0, 0))] :=
  .inr ⟨U, a6, a7, by rw [hlen], rfl, by omega, b3, b4, by rw [hlen, c0]; simp⟩
 refine h W' _ _ ?_ b1
 have b9 := p.nd
 rcases hR with ⟨rfl, rfl, rfl⟩ | ⟨g, cap, I, rfl, rfl, q1, q2, q3, q4⟩
 ·-- nil: a new block
  have Z : W.heap.size ≤ U := by
   rcases L with h | h <;> simp [Value.ownBlock] at h
   omega
  have hex : Ex dd W W' := ⟨s.os, s.tape, s.output, rN.of av, s.size, fun b n => s.block b n (by simp [Value.ownBlock])⟩
  have h1 := p.Ej hex
  refine ⟨h1.os, h1.tape, h1.output, h1.drawn, h1.size, h1.kN, h1.mem, fun b o n => ?_, ?_⟩
  ·simp only [aI, aC] at n
   rcases n with n | n | n
   ·exact h1.box b o (by simp [n])
   ·cases n
    refine ⟨aE, ?_, .inl (cn p.size Z)⟩
    cases hm : μ U with
    | none => rfl
    | some x => have := p.Cf hm; omega
   ·exact h1.box b o (by simp [n])
  ·simp only [bt, bh, aO, cU] at b9 ⊢
   refine (ey dD).2 (cv.2 ⟨fun hm => ?_, b9⟩)
   rw [← bh] at hm
   obtain ⟨⟨b, o⟩, n, J⟩ := aQ.1 hm
   have c6 : (b, o) ∈ X ++ ([] ++ Y) := by simpa using n
   have := p.Dl c6
   simp at J
   omega
 ·by_cases b5 : U = g
  ·subst b5
   have M : ST dd F w W μ (X ++ (U, Obj.cells I e (0, 0)) :: Y) := by simpa using p
   have hold : ∀ b, b < W.heap.size → b ≠ U → W'.heap[b]? = W.heap[b]? := fun b n G => s.block b n (by simp [Value.ownBlock]; exact G)
   have D := M.nd
   simp only [bh, aO] at D
   have G : ∀ b o, (b, o) ∈ X ++ Y → b ≠ U := fun b o n J => by
    subst J
    rcases aI.1 n with n | n
    ·exact (aR.1 D).2.2 b (aQ.2 ⟨_, n, rfl⟩) b (by simp) rfl
    ·exact (cv.1 (aR.1 D).2.1).1 (aQ.2 ⟨_, n, rfl⟩)
   have Q := M.box U (Obj.cells I e (0, 0)) (by simp)
   refine ⟨s.os.trans p.os, s.tape.trans p.tape, s.output.trans p.output, rN.trans p.drawn (rN.of av), cn p.size s.size, fun b n hF => ?_, fun b o n => ?_, fun b o n => ?_, by simpa using D⟩
   ·rw [hold b (cE n p.size) (fun J => by subst J; rcases Q.2.2 with h | h; omega; exact hF h)]
    exact p.kN b n hF
   ·rw [hold b (p.Cf n) (fun J => by subst J; rw [Q.2.1] at n; cases n)]
    exact p.mem b o n
   ·simp only [aI, aC] at n
    rcases n with n | n | n
    ·obtain ⟨r1, r2⟩ := p.box b o (by simp [n])
     exact ⟨by rw [hold b (mB r1) (G b o (by simp [n]))]; exact r1, r2⟩
    ·cases n; exact ⟨aE, Q.2⟩
    ·obtain ⟨r1, r2⟩ := p.box b o (by simp [n])
     exact ⟨by rw [hold b (mB r1) (G b o (by simp [n]))]; exact r1, r2⟩
  ·have Z : W.heap.size ≤ U := by
    rcases L with h | h <;> simp [Value.ownBlock] at h
    ·exact absurd h b5
    ·omega
   have M : ST dd F w W μ (X ++ (g, Obj.cells I e (0, 0)) :: Y) := by simpa using p
   have Q := M.box g (Obj.cells I e (0, 0)) (by simp)
   have D := M.nd
   simp only [bh, aO] at D
   have G : ∀ b o, (b, o) ∈ X ++ Y → b ≠ g := fun b o n J => by
    subst J
    rcases aI.1 n with n | n
    ·exact (aR.1 D).2.2 b (aQ.2 ⟨_, n, rfl⟩) b (by simp) rfl
    ·exact (cv.1 (aR.1 D).2.1).1 (aQ.2 ⟨_, n, rfl⟩)
   have hold : ∀ b, b < W.heap.size → b ≠ g → W'.heap[b]? = W.heap[b]? := fun b n G => s.block b n (by simp [Value.ownBlock]; exact G)
   refine ⟨s.os.trans p.os, s.tape.trans p.tape, s.output.trans p.output, rN.trans p.drawn (rN.of av), cn p.size s.size, fun b n hF => ?_, fun b o n => ?_, fun b o n => ?_, ?_⟩
   ·rw [hold b (cE n p.size) (fun J => by subst J; rcases Q.2.2 with h | h; omega; exact hF h)]
    exact p.kN b n hF
   ·rw [hold b (p.Cf n) (fun J => by subst J; rw [Q.2.1] at n; cases n)]
    exact p.mem b o n
   ·simp only [aI, aC] at n
    rcases n with n | n | n
    ·obtain ⟨r1, r2⟩ := p.box b o (by simp [n])
     exact ⟨by rw [hold b (mB r1) (G b o (by simp [n]))]; exact r1, r2⟩
    ·cases n
     refine ⟨aE, ?_, .inl (cn p.size Z)⟩
     cases hm : μ U with
     | none => rfl
     | some x => have := p.Cf hm; omega
    ·obtain ⟨r1, r2⟩ := p.box b o (by simp [n])
     exact ⟨by rw [hold b (mB r1) (G b o (by simp [n]))]; exact r1, r2⟩
   ·have c5 : (X.map (·.1) ++ Y.map (·.1)).Nodup := (cv.1 ((ey dD).1 D)).2
    simp only [bh, aO, cU]
    refine (ey dD).2 (cv.2 ⟨fun hm => ?_, c5⟩)
    rw [← bh] at hm
    obtain ⟨⟨b, o⟩, n, J⟩ := aQ.1 hm
    have := p.Dl (b := b) (o := o) (by rcases aI.1 n with h | h <;> simp [h])
    simp at J
    omega
end
end Go.Proofs.YtbnbdigcbldfhaaGreat
namespace Go.Proofs.YtbnbdigcbldfhaaGreat
open Go.RowKit
def vO (l : List Value) : Nat → Value := fun t => l.getD t undef
def wE (P : Program) (fn : Func) (R : Ending → World → Prop) : mo
 | .normal, E, W | .ret, E, W => ∃ v, (∀ tmps : Array Value, (∀ t, tmps.getD t undef = E t) → (results fn tmps).run P W = .ok v W) ∧ R (.returned v) W
 | _, _, _ => False
theorem yA {P : Program} {f : FuncId} {fn : Func} {c : Code} {args : List Value} {w : World} {R : Ending → World → Prop} {n : Nat} (p : P.funcs[f]? = some fn) (o : fn.body = some c) (s : fn.ntmps = n) (q : args.length ≤ n) (h : CW P n c (wE P fn R) (vO args) w) : Calls P f args.toArray w R := by
 refine calls_of_wp p o ?_
 have j : Ag n { tmps := args.toArray ++ Array.replicate (fn.ntmps - args.toArray.size) undef, defers := [] } (vO args) := by
  refine ⟨by simp; omega, rfl, fun t => ?_⟩
  simp only [vO, bM, ei, dT, eA, bJ, dU]
  by_cases m : t < args.length
  ·rw [aq m]
  ·rw [ap m, bQ (by omega)]
   split <;> simp
 refine eC (h _ j) (fun e a u g => ?_)
 cases e with
 | normal =>
  obtain ⟨E, d, v, k, i⟩ := g
  exact ⟨d.2.1, v, k _ d.2.2, i⟩
 | ret =>
  obtain ⟨E, d, v, k, i⟩ := g
  exact ⟨d.2.1, v, k _ d.2.2, i⟩
 | exit id => obtain ⟨E, d, h⟩ := g; exact h.elim
 | goto l => obtain ⟨E, d, h⟩ := g; exact h.elim
 | panic c => exact g.2.elim
 | outgrown => exact g.elim
section
variable {P : Program} {fn : Func} {R : Ending → World → Prop} {E : Nat → Value} {W : World}
theorem jR {r : Tmp} {v : Value} (a : fn.results = #[.tmp r]) (d : E r = v) (h : R (.returned v) W) : wE P fn R .ret E W :=
 ⟨v, fun tmps c => by rw [results_tmp a, c, d], h⟩
theorem pq {r s : Tmp} {v u : Value} (c : fn.results = #[.tmp r, .tmp s]) (d : E r = v) (hu : E s = u) (h : R (.returned (.tuple #[v, u])) W) : wE P fn R .ret E W :=
 ⟨.tuple #[v, u], fun tmps a => by rw [results_tmp2 c, a, a, d, hu], h⟩
theorem sI (a : fn.results = #[]) (h : R (.returned (.tuple #[])) W) : wE P fn R .ret E W :=
 ⟨.tuple #[], fun tmps _ => by rw [results_none a], h⟩
theorem tw {r : Tmp} {t : TypeId} {a : Addr} {v : Value} (c : fn.results = #[.cell r t]) (i : E r = .pointer (some a)) (g : (Instr.loadAt t (.pointer (some a))).run P W = .ok v W) (h : R (.returned v) W) : wE P fn R .ret E W :=
 ⟨v, fun tmps d => by
  have h1 : (loadVar t a).run P W = .ok v W := by simpa [Instr.loadAt, Instr.sureAddr] using g
  simp [results, c, d, i, asAddr, h1], h⟩
theorem tG (h : wE P fn R .ret E W) : wE P fn R .normal E W := h
end
section
variable {Q : mo} {E : Nat → Value} {W : World} {K : (Nat → Value) → World → Prop} {id j : Nat}
theorem jI (h : Q .normal E W) : uL id Q .normal E W := h
theorem ko (h : Q .ret E W) : uL id Q .ret E W := h
theorem tK (h : Q .normal E W) : uL id Q (.exit id) E W := by simp [uL]; exact h
theorem Rs (a : (j = id) = False) (h : Q (.exit j) E W) : uL id Q (.exit j) E W := by simp only [uL, a, aA]; exact h
theorem jb (h : K E W) : ot K Q .normal E W := h
theorem jx (h : Q .ret E W) : ot K Q .ret E W := h
theorem mH (h : Q (.exit j) E W) : ot K Q (.exit j) E W := h
end
theorem Nh {i N : Nat} (c : i < N) (a : N ≤ 9223372036854775807) : IntKind.i64.wrap ((i : Int) + 1) = ((i + 1 : Nat) : Int) := by
 rw [IntWalk.i64_in _ (by omega)]
 omega
theorem jG {P : Program} {n : Nat} {Q : mo} {E : Nat → Value} {W : World} {g s Z r6 o p A u : Nat} {t1 t2 t3 t4 t5 t6 t7 : TypeId} {T U Y : String} {f1 f2 f3 : Array Edge} {body : Code} (I : Nat → (Nat → Value) → World → Prop) (N : Nat) (L : N ≤ 9223372036854775807) (D : I 0 E W) (M : o < n) (R : u < n) (z : p < n) (J : ∀ i E W, I i E W → E p = .int .i64 (i : Nat) ∧ E A = .int .i64 (N : Nat)) (round : ∀ i E W, i < N → I i E W → CW P n (.block s body) (ot (fun E' W' => E' p = .int .i64 (i : Nat) ∧ I (i + 1) (lz (lz E' u (.int .i64 ((i + 1 : Nat) : Int))) p (.int .i64 ((i + 1 : Nat) : Int))) W') (uL g Q)) (lz E o (.bool true)) W) (done : ∀ E W, I N E W → Q .normal (lz E o (.bool false)) W) :
  CW P n (.block g (.loop (.seq (.region Z #[⟨some o, .binOp .lss t1 (.tmp p) (.tmp A) t2, t3, T, f1, none⟩] false)
   (.seq (.cond (.tmp o) .skip (.exit g)) (.seq (.block s body)
    (.region r6 #[⟨some u, .binOp .add t4 (.tmp p) (.const (.int .i64 1)) t5, t6, U, f2, none⟩, ⟨some p, .move (.tmp u), t7, Y, f3, none⟩] false)))))) Q E W := by
 refine lc (og (fun m E W => ∃ i, i ≤ N ∧ m = N - i ∧ I i E W) N ⟨0, fX _, by omega, D⟩ ?_)
 rintro m E W ⟨i, hi, rfl, d⟩
 obtain ⟨w, x⟩ := J i E W d
 refine jm (jj (GM (.inl rfl) rfl M (kd w x rfl) (jC ?_)))
 refine jb (jm ?_)
 have t : lz E o (.bool (decide ((i : Int) < (N : Int)))) o = .bool (decide ((i : Int) < (N : Int))) := by simp [lz]
 by_cases q : i < N
 ·have y : decide ((i : Int) < (N : Int)) = true := by simp; omega
  rw [y] at t ⊢
  refine vN t (jJ (jb (jm ?_)))
  refine GC (round i E W q d) (fun e E' W' h => ?_)
  cases e with
  | normal =>
   obtain ⟨h1, G⟩ := h
   refine jb ?_
   have hw : IntKind.i64.wrap ((i : Int) + 1) = ((i + 1 : Nat) : Int) := Nh q L
   refine jj (GM (v := .int .i64 ((i + 1 : Nat) : Int)) (.inl rfl) rfl R (kd (k := .i64) (a := (i : Int)) (b := 1) h1 rfl (by simp only [H9, hw])) ?_)
   refine GM (v := .int .i64 ((i + 1 : Nat) : Int)) (.inl rfl) rfl z (jd (by simp [iZ, lz])) (jC ?_)
   exact jb ⟨N - (i + 1), by omega, i + 1, by omega, rfl, G⟩
  | exit j => exact h
  | goto l => exact h
  | ret => exact h
  | panic c => exact h
  | outgrown => exact h
 ·have y : decide ((i : Int) < (N : Int)) = false := by simp; omega
  rw [y] at t ⊢
  obtain rfl : i = N := by omega
  refine nW t (nt (mH (mH (tK ?_))))
  exact done E W d
theorem Nv {P : Program} {n : Nat} {x : Code} {Q : mo} {K : (Nat → Value) → World → Prop} {E : Nat → Value} {W : World} (J : (Nat → Value) → World → Prop) (h : CW P n x (ot J Q) E W) (k : ∀ E W, J E W → K E W) : CW P n x (ot K Q) E W :=
 GC h (fun e E W h => by cases e <;> first | exact k E W h | exact h)
theorem QU {α : Type} {c : Bool} {x y r : α} (a : c = true) (h : (if c = true then x else y) = r) : x = r := by rw [aq a] at h; exact h
theorem QX {α : Type} {c : Bool} {x y r : α} (a : c = false) (h : (if c = true then x else y) = r) : y = r := by rw [ap (by rw [a]; decide)] at h; exact h
theorem bind_some {α β : Type} {o : Option α} {f : α → Option β} {r : β} (h : o.bind f = some r) : ∃ y, o = some y ∧ f y = some r := by
 cases o with
 | none => cases h
 | some y => exact ⟨y, rfl, h⟩
theorem Ms (b : Bool) : b = true ∨ b = false := by cases b <;> simp
theorem jB {α : Type} {l : List α} {i : Nat} (h : i < l.length) : ∃ x xs, l.drop i = x :: xs ∧ l[i]? = some x ∧ l.drop (i + 1) = xs := by
 cases a : l.drop i with
 | nil => have := aw List.length a; simp at this; omega
 | cons x xs => exact ⟨x, xs, rfl, by rw [← List.head?_drop, a]; rfl, by rw [← List.drop_drop, a]; rfl⟩
theorem xA {P : Program} {W : World} (d : Nat) (xs ys : Array Value) : (Op.eqFields d xs ys []).run P W = .ok true W := by simp [Op.eqFields]
theorem mC {P : Program} {W : World} {d : Nat} {xs ys : Array Value} {f : Field} {c : List Field} {a b : Value} {r s : Bool} (j : f.name ≠ "_") (g : (part f.type xs f.offset).run P W = .ok a W) (i : (part f.type ys f.offset).run P W = .ok b W) (he : (Op.equalIn d f.type a b).run P W = .ok r W) (h : (Op.eqFields d xs ys c).run P W = .ok s W) : (Op.eqFields d xs ys (f :: c)).run P W = .ok (r && s) W := by
 simp only [Op.eqFields, ne_eq, j, not_false_eq_true, aK, aZ, g, i, he, aN]
 cases r <;> simp [h]
theorem qw {P : Program} {W : World} {t : TypeId} {k : Nat} {cs : Array Value} {off : Nat} {v : Array Value} (a : ∀ w, (isAgg t).run P w = .ok true w) (c : ∀ w, (sizeOf t).run P w = .ok k w) (d : cs.extract off (off + k) = v) : (part t cs off).run P W = .ok (.agg v) W := by
 simp [part, a W, c W, d]
theorem nU {P : Program} {W : World} {t : TypeId} {cs : Array Value} {off : Nat} {v : Value} (a : ∀ w, (isAgg t).run P w = .ok false w) (c : cs[off]? = some v) : (part t cs off).run P W = .ok v W := by
 simp [part, a W, c]
def kc (a b : ByteArray) : Bool := a.toList == b.toList
theorem MZ {P : Program} {t : TypeId} (c : P.underlying t = some .string) (d : Nat) (a b : ByteArray) (W : World) : (Op.equalIn (d + 1) t (.string a) (.string b)).run P W = .ok (kc a b) W := run_equalIn_string W d t a b c
theorem Ts {P : Program} {t : TypeId} {k : IntKind} (c : P.underlying t = some (.int k)) (d : Nat) (a b : Int) (W : World) : (Op.equalIn (d + 1) t (.int k a) (.int k b)).run P W = .ok (a == b) W := run_equalIn_int W d t k k a b c
theorem kV {P : Program} {op : BinOp} {t : TypeId} {x y : Operand} {a b : Array Value} (c : P.eqGuardType P.depth t = false) (W : World) : (eqGuard op t x y (.agg a) (.agg b)).run P W = .ok () W := by
 cases op <;> simp [eqGuard] <;> (intro h; rw [c] at h; cases h)
theorem nE {P : Program} {t : TypeId} {a b : Array Value} {r : Bool} (h : ∀ W, (Op.equalIn Op.maxDepth t (.agg a) (.agg b)).run P W = .ok r W) (W : World) : (binOp .eql t (.agg a) (.agg b)).run P W = .ok (.bool r) W := by
 simp [binOp, Op.equal, h W]
theorem zQ {P : Program} {t : TypeId} {a b : Array Value} {r : Bool} (h : ∀ W, (Op.equalIn Op.maxDepth t (.agg a) (.agg b)).run P W = .ok r W) (W : World) : (binOp .neq t (.agg a) (.agg b)).run P W = .ok (.bool !r) W := by
 simp [binOp, Op.equal, h W]
variable {dd : Bool}
def jN (k : IntKind) (x : Int) : List Value := [.int k x]
def LX (x : Bool) : List Value := [.bool x]
def lE (x : ByteArray) : List Value := [.string x]
theorem Fw (k : IntKind) (x : Int) : ∀ u ∈ jN k x, u.oneCell' = true := by intro u hu; simp [jN] at hu; subst hu; rfl
theorem SN (x : Bool) : ∀ u ∈ LX x, u.oneCell' = true := by intro u hu; simp [LX] at hu; subst hu; rfl
theorem Cs (x : ByteArray) : ∀ u ∈ lE x, u.oneCell' = true := by intro u hu; simp [lE] at hu; subst hu; rfl
def zS : ByteArray := ⟨#[]⟩
def nX (a b : ByteArray) : Bool := Op.bytesLess a.toList b.toList
@[irreducible] def jM : Nat := 18446744073709551616
theorem oG : jM = 18446744073709551616 := by unfold jM; rfl
def kx {α : Type} (l : List α) (i : Int) : Option α := if 0 ≤ i then l[i.toNat]? else none
theorem kz {α : Type} {l : List α} {i : Int} {x : α} (h : kx l i = some x) : 0 ≤ i := by
 unfold kx at h; split at h
 ·assumption
 ·cases h
theorem ke {α : Type} {l : List α} {i : Int} {x : α} (h : kx l i = some x) : l[i.toNat]? = some x := by
 unfold kx at h; split at h
 ·exact h
 ·cases h
theorem GA {α : Type} (l : List α) (i : Nat) : kx l (i : Int) = l[i]? := by simp [kx]
def zn (s : ByteArray) (i : Int) : Option UInt8 := if 0 ≤ i then s[i.toNat]? else none
theorem yz {s : ByteArray} {i : Int} {x : UInt8} (h : zn s i = some x) : 0 ≤ i := by
 unfold zn at h; split at h
 ·assumption
 ·cases h
theorem Cm {s : ByteArray} {i : Int} {x : UInt8} (h : zn s i = some x) : s[i.toNat]? = some x := by
 unfold zn at h; split at h
 ·exact h
 ·cases h
section
variable {F : Nat → Prop} {w W : World} {μ : jw} {L L' : List (Nat × Obj)} {α : Type} {e : TypeId} {enc : α → List Value} {k : Nat} {v : Value} {l : List α} {R : List (Nat × Obj)}
theorem ST.at_ (h : ST dd F w W μ L) {b : Nat} {o : Obj} (a : (b, o) ∈ L) : hp W b = some o := (h.box b o a).1
theorem jl.SD (h : jl e enc k v l R) (hk : ∀ x, (enc x).length = k) (a : ST dd F w W μ L) (c : ∀ p, p ∈ R → p ∈ L) : Sl (Pl enc) k (hp W) v l :=
 h.sl hk (fun _ _ d => a.at_ (c _ d))
theorem jl.form (h : jl e enc k v l R) : ∃ A c, v = .slice A l.length c := by
 rcases h with ⟨rfl, rfl, rfl⟩ | ⟨g, cap, a, rfl, rfl, h1, d, i, j⟩
 ·exact ⟨_, _, rfl⟩
 ·exact ⟨_, _, rfl⟩
theorem Sl.form {R : py α} (h : Sl R k μ v l) : ∃ A c, v = .slice A l.length c := let ⟨A, c, h, _⟩ := h; ⟨A, c, h⟩
theorem jl.MM (h : jl e enc k v l R) (c : ST dd jD w W μ L) (i : ∀ p, p ∈ R → p ∈ L) : Fr w.heap.size v := by
 rcases h with ⟨rfl, rfl, rfl⟩ | ⟨g, cap, a, rfl, rfl, h1, j, m, n⟩
 ·exact Fr.nil _
 ·intro b d
  simp [Value.ownBlock] at d
  subst d
  rcases (c.box g (.cells a e (0, 0)) (i _ (aC.2 rfl))).2.2 with h | h
  ·exact h
  ·exact h.elim
theorem Sl.lit {b m : Nat} {cs : Array Value} (hk : ∀ x, (enc x).length = k) (hm : l.length = m) (c : m ≤ maxLen) (a : cs.toList = (l.map enc).flatten) (d : μ b = some (.cells cs e (0, 0))) : Sl (Pl enc) k μ (.slice (some ⟨b, 0, none⟩) m m) l :=
 (jl.lit (e := e) (b := b) hm c a (by have := aw List.length a; rw [ns hk, bL, hm] at this; exact this)).sl hk (fun g o h => by simp at h; obtain ⟨rfl, rfl⟩ := h; exact d)
theorem Fr.box (h : ST dd jD w W μ L) {b m c : Nat} {o : Obj} (d : (b, o) ∈ L) : Fr w.heap.size (.slice (some ⟨b, 0, none⟩) m c) := by
 intro g a
 simp [Value.ownBlock] at a
 subst a
 rcases (h.box b o d).2.2 with h | h
 ·exact h
 ·exact h.elim
theorem ST.perm (h : ST dd F w W μ L) (hp : L.Perm L') : ST dd F w W μ L' :=
 ⟨h.os, h.tape, h.output, h.drawn, h.size, h.kN, h.mem, fun b o a => h.box b o (hp.mem_iff.2 a), (hp.map _).nodup_iff.1 h.nd⟩
theorem ST.sublist (h : ST dd F w W μ L) (a : L'.Sublist L) : ST dd F w W μ L' :=
 ⟨h.os, h.tape, h.output, h.drawn, h.size, h.kN, h.mem, fun b o c => h.box b o (a.subset c), h.nd.sublist (a.map _)⟩
end
section
variable {E : Nat → Value} {x1 x2 x3 x4 x5 x6 : Operand} {v1 v2 v3 v4 v5 v6 : Value}
theorem nr (h1 : iZ E x1 = v1) : #[x1].map (iZ E) ++ (#[] : Array Value) = [v1].toArray := by simp [h1]
theorem nB (h1 : iZ E x1 = v1) (a : iZ E x2 = v2) : #[x1, x2].map (iZ E) ++ (#[] : Array Value) = [v1, v2].toArray := by simp [h1, a]
theorem Sh (h1 : iZ E x1 = v1) (a : iZ E x2 = v2) (c : iZ E x3 = v3) : #[x1, x2, x3].map (iZ E) ++ (#[] : Array Value) = [v1, v2, v3].toArray := by simp [h1, a, c]
theorem Sj (h1 : iZ E x1 = v1) (a : iZ E x2 = v2) (c : iZ E x3 = v3) (d : iZ E x4 = v4) : #[x1, x2, x3, x4].map (iZ E) ++ (#[] : Array Value) = [v1, v2, v3, v4].toArray := by simp [h1, a, c, d]
end
theorem Hi : ∀ (v : List Value) (i off : Nat) (cells : Array Value), off + i + v.length ≤ cells.size →
  (v.zipIdx i).foldl (fun cs (c, j) => cs.setIfInBounds (off + j) c) cells = (cells.toList.take (off + i) ++ v ++ cells.toList.drop (off + i + v.length)).toArray
 | [], i, off, cells, h => by simp
 | c :: v, i, off, cells, h => by
  simp only [List.zipIdx_cons, List.foldl_cons]
  simp only [aD] at h
  rw [Hi v (i + 1) off _ (by simp; omega)]
  have g : off + i < cells.toList.length := by simp; omega
  congr 1
  rw [Array.toList_setIfInBounds]
  apply cC
  intro j
  have k : (cells.toList.take (off + i)).length = off + i := by simp; omega
  by_cases h1 : j < off + i
  ·simp only [ed, aj, bA, gf, bL, aD, ct, dw, cq]
   rw [show min (off + (i + 1)) cells.size = off + (i + 1) by omega, show min (off + i) cells.size = off + i by omega]
   rw [aq (by omega), aq (by omega), aq (by omega), ap (by omega), aq (by omega), aq (by omega), aq (by omega)]
  ·by_cases d : j = off + i
   ·subst d
    simp [ed, ct, dw, show off + i < off + (i + 1) by omega]
    rw [aq (by omega), aq (by omega), ap (by omega), show off + i - min (off + i) cells.size = 0 by omega]
    rfl
   ·simp only [ed, aj, bA, gf, bL, aD, ct, dw, cq]
    rw [show min (off + (i + 1)) cells.size = off + (i + 1) by omega, show min (off + i) cells.size = off + i by omega]
    by_cases a : j < off + (i + 1) + v.length
    ·rw [aq a, ap (by omega), aq (by omega), ap (by omega)]
     rw [show j - (off + i) = (j - (off + (i + 1))) + 1 by omega]
     simp
    ·rw [ap a, ap (by omega), ap (by omega)]
     congr 1
     omega
theorem Jt {k : Nat} : ∀ (vs : List Value) (i : Nat) (pre rest : List Value), (∀ v ∈ vs, v.cells.size = k) → pre.length = i * k → rest.length = vs.length * k →
  Instr.fill (fun i => some (i * k, k)) (pre ++ rest).toArray ((vs.zipIdx i).map (fun p => (p.2, p.1))) = some (pre ++ vs.flatMap (fun v => v.cells.toList)).toArray
 | [], i, pre, rest, g, hp, d => by
  have : rest = [] := by cases rest <;> simp at d ⊢
  simp [Instr.fill, this]
 | v :: vs, i, pre, rest, g, hp, d => by
  have a := g v (by simp)
  have h : v.cells.zipIdx.foldl (fun cs (c, j) => cs.setIfInBounds (i * k + j) c) (pre ++ rest).toArray = (pre ++ v.cells.toList ++ rest.drop k).toArray := by
   have := Hi v.cells.toList 0 (i * k) (pre ++ rest).toArray (by simp [hp, d, a, bn])
   rw [← Array.toList_zipIdx, Array.foldl_toList] at this
   rw [this]
   congr 1
   simp [← hp, a]
  simp only [List.zipIdx_cons, aO, Instr.fill]
  rw [ap (by simp [a, hp, d, bn]), h]
  have := Jt vs (i + 1) (pre ++ v.cells.toList) (rest.drop k) (fun u hu => g u (by simp [hu])) (by simp [hp, a, bn]) (by simp [d, bn])
  rw [this]
  simp
theorem N2 {k m : Nat} {a cs : Array Value} {c : Array (Nat × Value)} (vs : List Value) (g : c.toList = vs.zipIdx.map (fun p => (p.2, p.1))) (j : ∀ v ∈ vs, v.cells.size = k) (hm : vs.length = m) (h : a.size = m * k) (d : (vs.flatMap (fun v => v.cells.toList)).toArray = cs) : Instr.fill (fun i => some (i * k, k)) a c.toList = some cs := by
 subst hm d
 rw [g]
 have := Jt vs 0 [] a.toList j (by simp) (by simpa using h)
 simpa using this
theorem B9 {P : Program} {t e : TypeId} {m k : Nat} {z : Value} {a : Array (Nat × Value)} {cs : Array Value} (vs : List Value) (i : P.underlying t = some (.slice e)) (h : ∀ w, (sizeOf e).run P w = .ok k w) (n : ∀ w, (zeroValue e).run P w = .ok z w) (hm : m * k ≤ 16777216) (g : a.toList = vs.zipIdx.map (fun p => (p.2, p.1))) (j : ∀ v ∈ vs, v.cells.size = k) (d : vs.length = m) (c : (vs.flatMap (fun v => v.cells.toList)).toArray = cs) (W : World) :
  (Instr.buildSlice t m a).run P W = .ok (.slice (some ⟨W.heap.size, 0, none⟩) m m) (W.alloc (.cells cs e (0, 0))) :=
 Gx i h n hm (N2 vs g j d (by simp) c) W
theorem uo {E : Nat → Value}  : (#[] : Array (Nat × Operand)).map (fun (i, x) => (i, iZ E x)) = #[] := by simp
theorem ma {E : Nat → Value} {x0 : Operand} {v0 : Value} {i0 : Nat} (a : iZ E x0 = v0) : (#[(i0, x0)] : Array (Nat × Operand)).map (fun (i, x) => (i, iZ E x)) = #[(i0, v0)] := by simp [a]
theorem nz {E : Nat → Value} {x0 x1 : Operand} {v0 v1 : Value} {i0 i1 : Nat} (a : iZ E x0 = v0) (h1 : iZ E x1 = v1) : (#[(i0, x0), (i1, x1)] : Array (Nat × Operand)).map (fun (i, x) => (i, iZ E x)) = #[(i0, v0), (i1, v1)] := by simp [a, h1]
theorem NM {E : Nat → Value} {x0 x1 x2 : Operand} {v0 v1 v2 : Value} {i0 i1 i2 : Nat} (a : iZ E x0 = v0) (h1 : iZ E x1 = v1) (c : iZ E x2 = v2) : (#[(i0, x0), (i1, x1), (i2, x2)] : Array (Nat × Operand)).map (fun (i, x) => (i, iZ E x)) = #[(i0, v0), (i1, v1), (i2, v2)] := by simp [a, h1, c]
theorem Na {E : Nat → Value} {x0 x1 x2 x3 : Operand} {v0 v1 v2 v3 : Value} {i0 i1 i2 i3 : Nat} (a : iZ E x0 = v0) (h1 : iZ E x1 = v1) (c : iZ E x2 = v2) (d : iZ E x3 = v3) : (#[(i0, x0), (i1, x1), (i2, x2), (i3, x3)] : Array (Nat × Operand)).map (fun (i, x) => (i, iZ E x)) = #[(i0, v0), (i1, v1), (i2, v2), (i3, v3)] := by simp [a, h1, c, d]
theorem kh {P : Program} {t : TypeId} {f off : Nat} {a : Array Field} {fd : Field} (h : P.underlying t = some (.struct a)) (c : a[f]? = some fd) {k : Nat} (g : ∀ w, (sizeOf fd.type).run P w = .ok k w) (hk : k ≠ 0) (d : fd.offset = off) : kD P t f off := by
 intro b o w
 subst d
 simp [Instr.fieldAt, ar h, c, Instr.sureAddr, fieldPlace, bZ, g w, hk]
theorem Ag.Lr {n : Nat} {a : Act} {E : Nat → Value} (h : Ag n a E) {ops : Array Oper} {j t : Nat} (d : (ops[j]?).bind (·.dst) = some t) (i : t < n) (k : E t = undef) : yielded ops a.tmps j = none := by
 have c := h.2.2 t
 have g : a.tmps[t]? = some (E t) := by
  rw [← c]
  simp [bM, h.1, i]
 simp [yielded, d, g, k, undef]
theorem QZ {P : Program} {n : Nat} {Q : mo} {E : Nat → Value} {W : World} {ops : Array Oper} {rest : List Oper} {o : Oper} {d j t : Nat} {want : Bool} (i : o.dst = some d) (p : d < n) (k : o.guard = some (j, want)) (m : (ops[j]?).bind (·.dst) = some t) (q : t < n) (g : E t = undef) (h : LW P n ops Q rest (lz E d undef) W) : LW P n ops Q (o :: rest) E W := fun a c => by
 unfold wpList
 have s := c.Lr m q g
 rw [ap (by simp [Region.wanted, k, s])]
 rw [i]
 exact h _ (c.put p _)
theorem RF {P : Program} {n : Nat} {Q : mo} {E : Nat → Value} {W : World} {ops : Array Oper} {rest : List Oper} {A : Value → Prop} {o : Oper} {dd : Nat} (hw : lq n ops E o) (c : o.dst = some dd) (d : dd < n) (g : ∃ p, A p ∧ ∀ W, kq P E o W p W) (h : ∀ p, A p → LW P n ops Q rest (lz E dd p) W) : LW P n ops Q (o :: rest) E W := by
 obtain ⟨p, h1, a⟩ := g
 exact GM hw c d (a W) (h p h1)
end Go.Proofs.YtbnbdigcbldfhaaGreat
namespace Go.Proofs.YtbnbdigcbldfhaaGreat
open Go.RowKit
variable {dd : Bool}
theorem yi {P : Program} {n : Nat} {x : Code} {Q : mo} {E : Nat → Value} {W : World} (h : CW P n x (ot (fun E W => Q .normal E W) Q) E W) : CW P n x Q E W :=
 GC h (fun e E W h => by cases e <;> exact h)
section
variable {P : Program} {n : Nat} {Q : mo} {E : Nat → Value} {W : World} {d : Option Nat} {ty : TypeId} {pos : String} {af : Array Edge} {g : Option (Nat × Bool)}
 {F : Nat → Prop} {w : World} {μ : jw} {L : List (Nat × Obj)}
def Pk (k : IntKind) (op : BinOp) (a b : Int) : Option Value :=
 match op with
 | .quo => some (.int k (k.wrap (a.tdiv b)))
 | .rem => some (.int k (a.tmod b))
 | .and => some (.int k (k.wrap (BitVec.ofInt k.bits a &&& BitVec.ofInt k.bits b).toNat))
 | .or => some (.int k (k.wrap (BitVec.ofInt k.bits a ||| BitVec.ofInt k.bits b).toNat))
 | _ => none
theorem FZ {op : BinOp} {tx tv : TypeId} {x y : Operand} {k : IntKind} {a b : Int} {v : Value} (i : iZ E x = .int k a) (j : iZ E y = .int k b) (h : b ≠ 0) (c : Pk k op a b = some v) :
  kq P E ⟨d, .binOp op tx x y tv, ty, pos, af, g⟩ W v W := by
 show (do let r ← (do eqGuard op tx x y (iZ E x) (iZ E y); binOp op tx (iZ E x) (iZ E y)); pure (.value r) : Sem Next).run P W = _
 rw [i, j]
 cases op <;> simp [Pk] at c <;> subst c <;> simp [eqGuard, binOp, Op.intDiv, Op.intBits, h]
theorem Mp {tx tv : TypeId} {x y : Operand} {k k' : IntKind} {a b : Int} (c : iZ E x = .int k a) (h : iZ E y = .int k' b) (i : 0 ≤ b) :
  kq P E ⟨d, .binOp .shr tx x y tv, ty, pos, af, g⟩ W (.int k (a.fdiv (2 ^ min b.toNat k.bits))) W := by
 show (do let r ← (do eqGuard .shr tx x y (iZ E x) (iZ E y); binOp .shr tx (iZ E x) (iZ E y)); pure (.value r) : Sem Next).run P W = _
 rw [c, h]
 simp [eqGuard, binOp, Op.shift, show ¬ b < 0 by omega]
theorem Ed {s t : TypeId} {x : Operand} {k k' : IntKind} {a : Int} {u : TypeDesc} (c : P.underlying s = some u) (h : P.underlying t = some (.int k)) (i : iZ E x = .int k' a) :
  kq P E ⟨d, .convert s t x, ty, pos, af, g⟩ W (.int k (k.wrap a)) W := by
 show (do pure (.value (← convert s t (iZ E x))) : Sem Next).run P W = _
 rw [i]
 simp [convert, ar c, ar h, Conv.intToInt]
theorem GF {t e : TypeId} (dd : Nat) (a : P.underlying t = some (.slice e)) (A : Option Addr) (l c : Nat) (W : World) : (Op.equalIn (dd + 1) t (.slice A l c) (.slice none 0 0)).run P W = .ok A.isNone W := by
 cases A <;> simp [Op.equalIn, ar a]
theorem AK {tx tv e : TypeId} {x y : Operand} {A : Option Addr} {l c : Nat} (h : P.underlying tx = some (.slice e)) (i : iZ E x = .slice A l c) (j : iZ E y = .slice none 0 0) :
  kq P E ⟨d, .binOp .eql tx x y tv, ty, pos, af, g⟩ W (.bool A.isNone) W := by
 show (do let r ← (do eqGuard .eql tx x y (iZ E x) (iZ E y); binOp .eql tx (iZ E x) (iZ E y)); pure (.value r) : Sem Next).run P W = _
 rw [i, j]
 have a := GF 9999 h A l c W
 simp [eqGuard, binOp, Op.equal, show Op.maxDepth = 9999 + 1 from rfl, a]
def rO (s : ByteArray) : List Int := s.data.toList.map (fun b => (b.toNat : Int))
def B3 (s : ByteArray) : Option (List Int) := if s.size ≤ maxLen then some (rO s) else none
theorem lA (s : ByteArray) : (rO s).length = s.size := by simp only [rO, cL, bL]; rfl
theorem Mg {s : ByteArray} {cap i : Nat} {x : Int} (h : (rO s)[i]? = some x) : (bytesRow s cap)[i]? = some (.int .u8 x) := by
 have d : i < s.size := by have := (aF.1 h).1; rwa [lA] at this
 have a : i < s.data.size := d
 simp [rO] at h
 obtain ⟨b, c, rfl⟩ := h
 rw [bytesRow, Array.getElem?_append_left (by simpa using a)]
 simp [c]
theorem HB {K : Value → World → Prop} {s t e : TypeId} {x : Operand} {str : ByteArray} {l : List Int} (c : ST dd F w W μ L) (p : P.underlying s = some .string) (o : P.underlying t = some (.slice e)) (he : P.underlying e = some (.int .u8)) (m : iZ E x = .string str) (a : B3 str = some l) (h : ∀ W' v μ', ST dd F w W' μ' L → js μ μ' → Lo F w μ μ' → Sl (Pl (jN .u8)) 1 μ' v l → Fr w.heap.size v → K v W') : lD P E ⟨d, .convert s t x, ty, pos, af, g⟩ W K := by
 unfold B3 at a
 split at a
 case isFalse => cases a
 rename_i hm
 cases a
 have k := run_bytes_of_string (P := P) W s t e str p o he
 have h1 := c.drew.alloc (.cells (bytesRow str (grownCap W str.size 0 e)) e ((bytesRow str (grownCap W str.size 0 e)).size, (bytesRow str (grownCap W str.size 0 e)).size + 1))
 refine .inl ⟨.slice (some ⟨W.heap.size, 0, none⟩) str.size (grownCap W str.size 0 e), _, ?_, h _ _ _ (ST.GX (A := []) h1) (ST.GB (A := []) h1) (ST.NA (A := []) h1) ?_ ?_⟩
 ·show (do pure (.value (← convert s t (iZ E x))) : Sem Next).run P W = _
  rw [m]
  simp only [aZ, k, aN, bP]
 ·refine ⟨_, grownCap W str.size 0 e, by rw [lA], by rw [lA]; exact grownCap_ge W str.size 0 e, gw W str.size 0 e hm, fun _ => ⟨W.heap.size, 0, bytesRow str (grownCap W str.size 0 e), e, _, rfl, aq rfl, fun i x m => ⟨_, rfl, rfl, fun j y n => ?_⟩⟩⟩
  cases j with
  | zero => simp [jN] at n; subst n; simpa using Mg m
  | succ j => simp [jN] at n
 ·intro b a
  simp [Value.ownBlock] at a
  subst a
  exact c.size
def yV (l : List Int) : ByteArray := l.foldl (fun r n => r.push (UInt8.ofNat n.toNat)) ByteArray.empty
theorem PS {s t e : TypeId} {x : Operand} {v : Value} {l : List Int} (z : P.underlying s = some (.slice e)) (he : P.underlying e = some (.int .u8)) (y : P.underlying t = some .string) (G : iZ E x = v) (D : Sl (Pl (jN .u8)) 1 (hp W) v l) :
  kq P E ⟨d, .convert s t x, ty, pos, af, g⟩ W (.string (yV l)) W := by
 show (do pure (.value (← convert s t (iZ E x))) : Sem Next).run P W = _
 obtain ⟨A, c, rfl, I, J, p⟩ := D
 rw [G]
 simp only [aZ, run_convert_bytes_string W s t e A l.length c z he y]
 rcases cF l.length with h | h
 ·have : l = [] := cD.1 h
  subst this
  cases A with
  | none => simp [Conv.bytesToString, yV]
  | some a =>
   have q := run_bytesToString (P := P) W a 0 c [] (by simpa using gv (P := P) W a [] (by simp))
   simp only [bH]
   rw [q]
   simp [yV]
 ·obtain ⟨b, off, cs, T, fr, rfl, u, w⟩ := p h
  have o := gv (P := P) W ⟨b, off, none⟩ (l.map (Value.int .u8)) (fun j v n => by
   simp at n
   obtain ⟨x, k, rfl⟩ := n
   obtain ⟨ys, _, m, i⟩ := w j x k
   cases m
   rw [bZ, ec W b (off + j) cs T fr u]
   have := i 0 (.int .u8 x) rfl
   simpa using this)
  simp only [cL] at o
  rw [run_bytesToString W _ l.length c l o]
  simp [yV]
end
end Go.Proofs.YtbnbdigcbldfhaaGreat
namespace Go.Proofs.YtbnbdigcbldfhaaGreat
open Go.RowKit
variable {dd : Bool}
def keys (L : List (Nat × Obj)) : Nat → Prop := fun b => ∃ o, (b, o) ∈ L
structure Tp (dd : Bool) (F : Nat → Prop) (w W : World) : Prop where
 os : W.os = w.os
 tape : W.tape = w.tape
 output : W.output = w.output
 drawn : rN dd w.drawn W.drawn
 size : w.heap.size ≤ W.heap.size
 kN : ∀ b, b < w.heap.size → ¬ F b → W.heap[b]? = w.heap[b]?
def By (L : List (Nat × Obj)) (W : World) : Prop := ∀ b o, (b, o) ∈ L → W.heap[b]? = some o
structure pX (dd : Bool) (L0 L1 : List (Nat × Obj)) (w w' : World) : Prop where
 ex : Tp dd (keys L0) w w'
 held : ∀ b o, (b, o) ∈ L1 → w'.heap[b]? = some o ∧ (w.heap.size ≤ b ∨ keys L0 b)
 nd : (L1.map (·.1)).Nodup
open Classical in
noncomputable def pY (w : World) (L : List (Nat × Obj)) : jw := fun b => if keys L b then none else w.heap[b]?
open Classical in
noncomputable def A0 (μ : jw) (W W' : World) (L1 : List (Nat × Obj)) : jw := fun b => if b < W.heap.size then μ b else if keys L1 b then none else W'.heap[b]?
section
variable {F : Nat → Prop} {w W W' : World} {μ μ' : jw} {L L0 L1 : List (Nat × Obj)}
theorem ST.Rc (a : By L0 w) (c : (L0.map (·.1)).Nodup) : ST dd (keys L0) w w (pY w L0) L0 :=
 ⟨rfl, rfl, rfl, rN.of (aJ _), aJ _, fun _ _ _ => rfl, fun b o h => by
  unfold pY at h; split at h
  ·cases h
  ·exact h, fun b o h => ⟨a b o h, by unfold pY; rw [aq ⟨o, h⟩], .inr ⟨o, h⟩⟩, c⟩
theorem ST.QS (h : ST dd (keys L0) w W μ L1) : pX dd L0 L1 w W :=
 ⟨⟨h.os, h.tape, h.output, h.drawn, h.size, h.kN⟩, fun b o a => ⟨(h.box b o a).1, (h.box b o a).2.2⟩, h.nd⟩
theorem Ei {A B : List (Nat × Obj)} (h : ((A ++ B).map (·.1)).Nodup) {b : Nat} {o : Obj} (a : (b, o) ∈ B) : ¬ keys A b := by
 rintro ⟨d, c⟩
 rw [bh] at h
 exact (aR.1 h).2.2 b (aQ.2 ⟨_, c, rfl⟩) b (aQ.2 ⟨_, a, rfl⟩) rfl
theorem ST.back (h : ST dd F w W μ (L0 ++ L)) (j : pX dd L0 L1 W W') : ST dd F w W' (A0 μ W W' L1) (L1 ++ L) := by
 have hk : ∀ b, keys L0 b → b < W.heap.size ∧ μ b = none ∧ (w.heap.size ≤ b ∨ F b) := fun b ⟨o, d⟩ => by
  obtain ⟨h1, g, n⟩ := h.box b o (aW _ d)
  exact ⟨mB h1, g, n⟩
 refine ⟨j.ex.os.trans h.os, j.ex.tape.trans h.tape, j.ex.output.trans h.output, rN.trans h.drawn j.ex.drawn, cn h.size j.ex.size, fun b i p => ?_, fun b o d => ?_, fun b o d => ?_, ?_⟩
 ·rw [j.ex.kN b (cE i h.size) (fun k => by
   rcases (hk b k).2.2 with h | h
   ·omega
   ·exact p h)]
  exact h.kN b i p
 ·unfold A0 at d
  split at d
  ·rename_i i
   rw [j.ex.kN b i (fun k => by rw [(hk b k).2.1] at d; cases d)]
   exact h.mem b o d
  ·split at d
   ·cases d
   ·exact d
 ·rcases aI.1 d with d | d
  ·obtain ⟨h1, g⟩ := j.held b o d
   refine ⟨h1, ?_, ?_⟩
   ·unfold A0
    split
    ·rename_i i
     rcases g with g | g
     ·omega
     ·exact (hk b g).2.1
    ·rw [aq ⟨o, d⟩]
   ·rcases g with g | g
    ·exact .inl (cn h.size g)
    ·exact (hk b g).2.2
  ·obtain ⟨h1, g, n⟩ := h.box b o (bY _ d)
   refine ⟨?_, ?_, n⟩
   ·rw [j.ex.kN b (mB h1) (Ei h.nd d)]; exact h1
   ·unfold A0; rw [aq (mB h1)]; exact g
 ·rw [bh]
  have s : (L.map (·.1)).Nodup := by have := h.nd; rw [bh] at this; exact (aR.1 this).2.1
  refine aR.2 ⟨j.nd, s, fun a t c u e => ?_⟩
  subst e
  obtain ⟨⟨b, o⟩, d, rfl⟩ := aQ.1 t
  obtain ⟨⟨q, v⟩, m, e⟩ := aQ.1 u
  simp at e; subst e
  have i := h.Dl (bY _ m)
  rcases (j.held q o d).2 with g | g
  ·omega
  ·exact Ei h.nd m g
theorem ST.Jz (h : ST dd F w W μ L) (W' : World) (L1 : List (Nat × Obj)) : Lo F w μ (A0 μ W W' L1) := fun b a _ => aq (cE a h.size)
theorem ST.He (h : ST dd F w W μ L) (W' : World) (L1 : List (Nat × Obj)) : js μ (A0 μ W W' L1) := fun b o a => by
 unfold A0; rw [aq (h.Cf a)]; exact a
theorem ST.jT (h : ST dd F w W μ L) (c : ∀ p, p ∈ L0 → p ∈ L) : js μ (pY W L0) := fun b o a => by
 unfold pY
 rw [ap]
 ·exact h.mem b o a
 ·rintro ⟨g, d⟩
  rw [(h.box b g (c _ d)).2.1] at a
  cases a
theorem pX.Ib (h : Ex dd w W) (c : ∀ b o, (b, o) ∈ L1 → W.heap[b]? = some o ∧ w.heap.size ≤ b) (d : (L1.map (·.1)).Nodup) : pX dd [] L1 w W :=
 ⟨⟨h.os, h.tape, h.output, h.drawn, h.size, fun b a _ => h.kN b a⟩, fun b o a => ⟨(c b o a).1, .inl (c b o a).2⟩, d⟩
end
def jY (dd : Bool) (P : Program) (f : FuncId) (args : List Value) (w : World) (L0 : List (Nat × Obj)) (K : Value → List (Nat × Obj) → World → Prop) : Prop :=
 Calls P f args.toArray w fun e a => ∃ v L1, e = .returned v ∧ pX dd L0 L1 w a ∧ K v L1 a
def jZ (dd : Bool) {α : Type} (P : Program) (f : FuncId) (args : List Value) (w : World) (e : TypeId) (enc : α → List Value) (k : Nat) (l : List α) : Prop :=
 jY dd P f args w [] fun v R _ => jl e enc k v l R
theorem pX.kw {L0 L1 : List (Nat × Obj)} {w a : World} (h : pX true L0 L1 w a) : pX dd L0 L1 w a := ⟨⟨h.ex.os, h.ex.tape, h.ex.output, rN.of (h.ex.drawn rfl), h.ex.size, h.ex.kN⟩, h.held, h.nd⟩
theorem jv.kw {P : Program} {f : FuncId} {args : List Value} {w : World} {v : Value} (h : jv true P f args w v) : jv dd P f args w v := bp h fun _ _ h => ⟨h.1, h.2.kw⟩
theorem jY.kw {P : Program} {f : FuncId} {args : List Value} {w : World} {L0 : List (Nat × Obj)} {K : Value → List (Nat × Obj) → World → Prop} (h : jY true P f args w L0 K) : jY dd P f args w L0 K := bp h fun _ _ ⟨v, L1, h1, a, c⟩ => ⟨v, L1, h1, a.kw, c⟩
theorem jZ.kw {α : Type} {P : Program} {f : FuncId} {args : List Value} {w : World} {e : TypeId} {enc : α → List Value} {k : Nat} {l : List α} (h : jZ true P f args w e enc k l) : jZ dd P f args w e enc k l := jY.kw h
section
variable {P : Program} {E : Nat → Value} {W : World} {d : Option Nat} {ty : TypeId} {pos : String} {af : Array Edge} {g : Option (Nat × Bool)}
 {F : Nat → Prop} {w : World} {μ : jw} {L : List (Nat × Obj)}
theorem Ov {K : Value → World → Prop} {K' : Value → List (Nat × Obj) → World → Prop} {f : FuncId} {fv : Operand} {ax : Array Operand} {ats : Array TypeId} {caps : Array Value} {args : List Value} (L0 L2 : List (Nat × Obj)) (a : ST dd F w W μ L) (c : L.Perm (L0 ++ L2)) (n : iZ E fv = .func (.func f) #[] caps) (he : ∀ args w, (callFunc f args).run P w = .ok (.enter f args) w) (k : ax.map (iZ E) ++ caps = args.toArray) (m : jY dd P f args W L0 K') (h : ∀ W' v μ' L1, ST dd F w W' μ' (L1 ++ L2) → js μ μ' → Lo F w μ μ' → K' v L1 W' → K v W') : lD P E ⟨d, .call ⟨.value fv, ax, ats⟩, ty, pos, af, g⟩ W K :=
 Ef n he k (bp m (fun _ W' ⟨v, L1, h1, i, j⟩ => ⟨v, h1, h W' v _ L1 ((a.perm c).back i) ((a.perm c).He W' L1) ((a.perm c).Jz W' L1) j⟩))
theorem Lx {K : Value → World → Prop} {α : Type} {e : TypeId} {enc : α → List Value} {k : Nat} {l : List α} {f : FuncId} {fv : Operand} {ax : Array Operand} {ats : Array TypeId} {caps : Array Value} {args : List Value} (X Y : List (Nat × Obj)) (a : ST dd F w W μ (X ++ Y)) (o : iZ E fv = .func (.func f) #[] caps) (he : ∀ args w, (callFunc f args).run P w = .ok (.enter f args) w) (m : ax.map (iZ E) ++ caps = args.toArray) (n : jZ dd P f args W e enc k l) (h : ∀ W' v μ' R, ST dd F w W' μ' (X ++ (R ++ Y)) → js μ μ' → Lo F w μ μ' → jl e enc k v l R → K v W') : lD P E ⟨d, .call ⟨.value fv, ax, ats⟩, ty, pos, af, g⟩ W K :=
 Ov [] (X ++ Y) a (.refl _) o he m n (fun W' v μ' L1 h1 c j i => h W' v μ' L1 (h1.perm (by rw [← aB, ← aB]; exact List.perm_append_comm.append_right Y)) c j i)
end
theorem ST.ly {w W : World} {μ : jw} {L R : List (Nat × Obj)} (h : ST dd jD w W μ L) (a : ∀ p, p ∈ R → p ∈ L) (d : (R.map (·.1)).Nodup) : pX dd [] R w W :=
 pX.Ib h.ex (fun b o c => ⟨(h.box b o (a _ c)).1, by
  rcases (h.box b o (a _ c)).2.2 with h | h
  ·exact h
  ·exact h.elim⟩) d
theorem lT {P : Program} {E : Nat → Value} {W : World} {d : Option Nat} {ty : TypeId} {pos : String} {af : Array Edge} {g : Option (Nat × Bool)} {α : Type} {e' : TypeId} {enc : α → List Value} {k : Nat} {v : Value} {l : List α} {R : List (Nat × Obj)} {x : Operand} {t e : TypeId} (a : P.underlying t = some (.slice e)) (i : iZ E x = v) (h : jl e' enc k v l R) : kq P E ⟨d, .call ⟨.builtin .len, #[x], #[t]⟩, ty, pos, af, g⟩ W (.int .i64 l.length) W := by
 obtain ⟨A, c, rfl⟩ := h.form
 exact yq a i
section
variable {α : Type} {e : TypeId} {enc : α → List Value} {k : Nat} {v : Value} {l : List α} {R : List (Nat × Obj)}
theorem jl.nd (h : jl e enc k v l R) : (R.map (·.1)).Nodup := by
 rcases h with ⟨rfl, rfl, rfl⟩ | ⟨g, cap, a, rfl, rfl, _⟩ <;> simp
end
end Go.Proofs.YtbnbdigcbldfhaaGreat
namespace Go.Proofs.YtbnbdigcbldfhaaGreat
open Go.RowKit
variable {dd : Bool}
def CE (R : List (Nat × Obj)) (k : Nat) (p : Value) (i : Nat) : Prop := ∃ g o, R = [(g, o)] ∧ p = .pointer (some ⟨g, i * k, none⟩)
section
variable {P : Program} {E : Nat → Value} {W : World} {d : Option Nat} {ty : TypeId} {pos : String} {af : Array Edge} {g : Option (Nat × Bool)}
 {F : Nat → Prop} {w : World} {μ : jw} {L : List (Nat × Obj)} {α : Type} {e' : TypeId} {enc : α → List Value} {k : Nat} {v : Value} {l : List α} {R : List (Nat × Obj)}
theorem kY {t e : TypeId} {x c : Operand} {z : IntKind} {i : Int} {x0 : α} (u : P.underlying t = some (.slice e)) (he : ∀ w, (sizeOf e).run P w = .ok k w) (y : iZ E x = v) (q : iZ E c = .int z i) (h : jl e' enc k v l R) (n : 0 ≤ i) (s : l[i.toNat]? = some x0) :
  ∃ p, CE R k p i.toNat ∧ ∀ W, kq P E ⟨d, .indexAddr t x c, ty, pos, af, g⟩ W p W := by
 have a : i.toNat < l.length := (aF.1 s).1
 rcases h with ⟨rfl, rfl, rfl⟩ | ⟨m, cap, j, rfl, rfl, h1, A, D, G⟩
 ·simp at a
 refine ⟨.pointer (some ⟨m, i.toNat * k, none⟩), ⟨_, _, rfl, rfl⟩, fun W => ?_⟩
 show (do pure (.value (← Instr.indexAt t (iZ E x) (iZ E c))) : Sem Next).run P W = _
 rw [y, q]
 have o : 0 ≤ i ∧ i < (l.length : Int) := ⟨n, by omega⟩
 simp [Instr.indexAt, asIntOf, ar u, he W, o, bZ]
theorem zZ (h : jl e' enc k v l R) (hk : ∀ x, (enc x).length = k) {p : Value} {i : Nat} (hp : CE R k p i) {x0 : α} (n : l[i]? = some x0) :
  ∃ g a cap, R = [(g, .cells a e' (0, 0))] ∧ v = .slice (some ⟨g, 0, none⟩) l.length cap ∧ l.length ≤ cap ∧ cap ≤ maxLen ∧ a.size = cap * k ∧ a.toList.take (l.length * k) = (l.map enc).flatten ∧ p = .pointer (some ⟨g, i * k, none⟩) ∧ ∀ j y, (enc x0)[j]? = some y → a[i * k + j]? = some y := by
 have d : i < l.length := (aF.1 n).1
 rcases h with ⟨rfl, rfl, rfl⟩ | ⟨s, cap, a, rfl, rfl, h1, t, u, m⟩
 ·simp at d
 obtain ⟨g2, o, q, rfl⟩ := hp
 cases q
 refine ⟨s, a, cap, rfl, rfl, h1, t, u, m, rfl, fun j y w => ?_⟩
 have := vH hk l i x0 n j y w
 rw [← m] at this
 have c : i * k + j < l.length * k := by
  have := (aF.1 this).1
  simp at this; omega
 rw [cy c] at this
 simpa using this
theorem oy {A : List (Nat × Obj)} (hH : qg μ A W) (d : ∀ q, q ∈ R → q ∈ A) (h : jl e' enc k v l R) (hk : ∀ x, (enc x).length = k) {p : Value} {i : Nat} (hp : CE R k p i) {x0 : α} (m : l[i]? = some x0) {t : TypeId} (g : ∀ w, (isAgg t).run P w = .ok true w) (j : ∀ w, (sizeOf t).run P w = .ok k w) : (Instr.loadAt t p).run P W = .ok (.agg (enc x0).toArray) W := by
 obtain ⟨n, a, cap, rfl, rfl, _, _, _, _, rfl, c⟩ := zZ h hk hp m
 exact BB g (enc x0) (by rw [hk]; exact j) (hH.2 _ _ (d _ (aC.2 rfl))) c
theorem tI {A : List (Nat × Obj)} (hH : qg μ A W) (d : ∀ q, q ∈ R → q ∈ A) (h : jl e' enc k v l R) (hk : ∀ x, (enc x).length = k) {p : Value} {i : Nat} (hp : CE R k p i) {x0 : α} (j : l[i]? = some x0) {t : TypeId} {y : Value} (m : enc x0 = [y]) (g : ∀ w, (isAgg t).run P w = .ok false w) : (Instr.loadAt t p).run P W = .ok y W := by
 obtain ⟨n, a, cap, rfl, rfl, _, _, _, _, rfl, c⟩ := zZ h hk hp j
 exact Bq g (hH.2 _ _ (d _ (aC.2 rfl))) (c 0 y (by rw [m]; rfl))
theorem EW (hk : ∀ x, (enc x).length = k) : ∀ (l : List α) (i : Nat) (y : α), i < l.length → ((l.set i y).map enc).flatten = (l.map enc).flatten.take (i * k) ++ enc y ++ (l.map enc).flatten.drop (i * k + k)
 | [], i, y, h => by simp at h
 | z :: l, 0, y, h => by
  simp [hk]
 | z :: l, i + 1, y, h => by
  have := EW hk l i y (by simpa using h)
  simp only [List.set_cons_succ, aO, cA, this]
  have h1 : (i + 1) * k = (enc z).length + i * k := by rw [hk, bn]; omega
  rw [h1, gm, dz, List.drop_length_add_append]
  simp
theorem LB {K : Value → World → Prop} (X : List (Nat × Obj)) {Y : List (Nat × Obj)} {t : TypeId} {x y : Operand} {p u : Value} {i : Nat} {x0 x1 : α} (j : ST dd F w W μ (X ++ (R ++ Y))) (h : jl e' enc k v l R) (hk : ∀ x, (enc x).length = k) (h1 : ∀ x, ∀ u ∈ enc x, u.oneCell' = true) (U : iZ E x = p) (Z : iZ E y = u) (hu : u.cells = (enc x1).toArray) (hp : CE R k p i) (D : l[i]? = some x0) (Q : ∀ w, (sizeOf t).run P w = .ok k w) (M : ∀ W' R', ST dd F w W' μ (X ++ (R' ++ Y)) → jl e' enc k v (l.set i x1) R' → K undef W') : lD P E ⟨d, .store t x y, ty, pos, af, g⟩ W K := by
 have s : i < l.length := (aF.1 D).1
 obtain ⟨n, a, cap, rfl, rfl, A, J, q, L, rfl, h6⟩ := zZ h hk hp D
 have hle : i * k + k ≤ cap * k := by
  have : (i + 1) * k ≤ cap * k := bd _ (by omega)
  rwa [bn, iJ] at this
 have m : i * k + k ≤ l.length * k := by
  have : (i + 1) * k ≤ l.length * k := bd _ (by omega)
  rwa [bn, iJ] at this
 have c : u.cells.size = k := by rw [hu]; simp [hk]
 have T := (j.box n (.cells a e' (0, 0)) (by simp)).1
 have hlen : l.length * k ≤ cap * k := bd _ A
 refine .inr (.inl ⟨W.setRow n (a.toList.take (i * k) ++ (enc x1) ++ a.toList.drop (i * k + k)).toArray, ?_, M _ [(n, .cells (a.toList.take (i * k) ++ (enc x1) ++ a.toList.drop (i * k + k)).toArray e' (0, 0))] (j.store _) (.inr ⟨n, cap, _, by simp, rfl, by simpa using A, J, ?_, ?_⟩)⟩)
 ·show (do Instr.storeAt t (iZ E x) (iZ E y); pure .skip : Sem Next).run P W = _
  rw [U, Z]
  have := BF P (off := i * k) u (by rw [c]; exact Q) (by rw [hu]; simpa using h1 x1) T (by rw [c, q]; exact hle)
  simp only [aZ, this, aN, bP, c]
  rw [hu]
 ·show ((a.toList.take (i * k) ++ (enc x1) ++ a.toList.drop (i * k + k)).toArray).size = _
  have o : a.toList.length = cap * k := by simpa using q
  rw [bJ, aj, aj, bA, cg, hk, o, bO (by omega)]; omega
 ·rw [gf, EW hk l i x1 s, ← L]
  have G : (a.toList.take (l.length * k)).take (i * k) = a.toList.take (i * k) := by rw [ej]; congr 1; omega
  have I : (a.toList.take (l.length * k)).drop (i * k + k) = (a.toList.drop (i * k + k)).take (l.length * k - (i * k + k)) := by rw [eZ]
  rw [G, I]
  show List.take (l.length * k) (a.toList.take (i * k) ++ enc x1 ++ a.toList.drop (i * k + k)) = _
  have o : a.toList.length = cap * k := by simpa using q
  have z : (a.toList.take (i * k) ++ enc x1).length = i * k + k := by rw [aj, bA, hk, o, bO (by omega)]
  rw [dl, bU (by rw [z]; exact m), z]
theorem AT (hk : ∀ x, (enc x).length = k) : ∀ (l : List α) (i : Nat), i ≤ l.length → ((l.take i).map enc).flatten = (l.map enc).flatten.take (i * k)
 | [], i, h => by simp
 | z :: l, 0, h => by simp
 | z :: l, i + 1, h => by
  have := AT hk l i (by simpa using h)
  simp only [List.take_succ_cons, aO, cA, this]
  rw [show (i + 1) * k = (enc z).length + i * k by rw [hk, bn]; omega, gm]
theorem se {t e : TypeId} {x ih : Operand} {G : IntKind} {i : Int} (n : P.underlying t = some (.slice e)) (he : ∀ w, (sizeOf e).run P w = .ok k w) (o : iZ E x = v) (m : iZ E ih = .int G i) (h : jl e' enc k v l R) (hk : ∀ x, (enc x).length = k) (s : 0 ≤ i) (D : i ≤ l.length) :
  ∃ p, jl e' enc k p (l.take i.toNat) R ∧ ∀ W, kq P E ⟨d, .slice t x none (some ih) none, ty, pos, af, g⟩ W p W := by
 have a : i.toNat ≤ l.length := by omega
 rcases h with ⟨rfl, rfl, rfl⟩ | ⟨j, cap, c, rfl, rfl, h1, u, y, z⟩
 ·have : i = 0 := by simp at D; omega
  subst this
  refine ⟨.slice none 0 0, .inl ⟨rfl, by simp, rfl⟩, fun W => ?_⟩
  show (do pure (.value (← Instr.sliceAt t (iZ E x) none (some (iZ E ih)) none)) : Sem Next).run P W = _
  rw [o, m]
  simp [Instr.sliceAt, Instr.slice, Instr.sliceBounds, Instr.sliceBound, asIntOf, ar n, he W]
 ·refine ⟨.slice (some ⟨j, 0, none⟩) (l.take i.toNat).length cap, .inr ⟨j, cap, c, rfl, rfl, by simp; omega, u, y, ?_⟩, fun W => ?_⟩
  ·have q : (l.take i.toNat).length = i.toNat := by rw [bA]; omega
   have hle : i.toNat * k ≤ l.length * k := bd _ a
   rw [q, AT hk l i.toNat a, ← z, ej, bO hle]
  ·show (do pure (.value (← Instr.sliceAt t (iZ E x) none (some (iZ E ih)) none)) : Sem Next).run P W = _
   rw [o, m]
   have A : 0 ≤ i ∧ i ≤ (cap : Int) := ⟨s, by omega⟩
   simp [Instr.sliceAt, Instr.slice, Instr.sliceBounds, Instr.sliceBound, asIntOf, ar n, he W, A, bZ]
   omega
theorem Br {u : py α} {t e : TypeId} {x p : Operand} {ik : IntKind} {i : Int} (Z : P.underlying t = some (.slice e)) (he : ∀ w, (sizeOf e).run P w = .ok k w) (n : iZ E x = v) (Q : iZ E p = .int ik i) (h : Sl u k μ v l) (z : 0 ≤ i) (R : i ≤ l.length) :
  ∃ s, (Sl u k μ s (l.drop i.toNat) ∧ ∀ B, Fr B v → Fr B s) ∧ ∀ W, kq P E ⟨d, .slice t x (some p) none none, ty, pos, af, g⟩ W s W := by
 obtain ⟨A, c, rfl, h2, h3, D⟩ := h
 have U : i.toNat ≤ l.length := by omega
 refine ⟨.slice (if c = i.toNat then A else A.map (·.add (i.toNat * k))) (l.drop i.toNat).length (c - i.toNat), ⟨⟨_, _, rfl, by simp; omega, by omega, fun hp => ?_⟩, fun B M b m => ?_⟩, fun W => ?_⟩
 ·have Y : i.toNat < l.length := by simp at hp; omega
  obtain ⟨b, off, cs, T, fr, rfl, G, I⟩ := D (by omega)
  refine ⟨b, off + i.toNat * k, cs, T, fr, ?_, G, fun j x n => ?_⟩
  ·rw [ap (by omega)]; simp [bZ]
  ·rw [cq] at n
   obtain ⟨ys, J, L, o⟩ := I _ x n
   refine ⟨ys, J, L, fun q y hy => ?_⟩
   have := o q y hy
   rw [bn] at this
   rw [show off + i.toNat * k + j * k + q = off + (i.toNat * k + j * k) + q by omega]
   exact this
 ·refine M b ?_
  cases A with
  | none => simp [Value.ownBlock] at m
  | some a =>
   split at m
   ·exact m
   ·obtain ⟨b', o', s'⟩ := a
    cases s' <;> simp [Value.ownBlock, Addr.add] at m ⊢ <;> split at m <;> exact m
 ·show (do pure (.value (← Instr.sliceAt t (iZ E x) (some (iZ E p)) none none)) : Sem Next).run P W = _
  rw [n, Q]
  have m : 0 ≤ i ∧ i ≤ (l.length : Int) := ⟨z, R⟩
  simp [Instr.sliceAt, Instr.slice, Instr.sliceBounds, Instr.sliceBound, asIntOf, ar Z, he W, m]
end
end Go.Proofs.YtbnbdigcbldfhaaGreat
namespace Go.Proofs.YtbnbdigcbldfhaaGreat
open Go.RowKit
variable {dd : Bool}
section
variable {α : Type} {e : TypeId} {enc : α → List Value} {k : Nat} {v : Value} {l : List α} {R : List (Nat × Obj)} {μ : jw}
theorem jl.one (h : jl e enc k v l R) : v.oneCell' = true := by obtain ⟨A, c, rfl⟩ := h.form; rfl
theorem Sl.one {a : py α} (h : Sl a k μ v l) : v.oneCell' = true := by obtain ⟨A, c, rfl⟩ := h.form; rfl
theorem Sl.isNil {d : py α} {n c : Nat} (h : Sl d k μ (.slice none n c) l) : l = [] := by
 obtain ⟨A, j, h1, m, o, g⟩ := h
 cases h1
 rcases cF l.length with a | a
 ·exact cD.1 a
 ·obtain ⟨b, off, cs, T, fr, i, _⟩ := g a
  cases i
theorem jl.isNil {n c : Nat} (h : jl e enc k (.slice none n c) l R) : l = [] := by
 rcases h with ⟨h1, rfl, rfl⟩ | ⟨g, cap, a, h1, _⟩
 ·rfl
 ·cases h1
theorem ST.R4 {w W : World} {μ : jw} {L1 L2 : List (Nat × Obj)} (h : ST dd jD w W μ (L1 ++ L2)) : pX dd [] L1 w W :=
 pX.Ib h.ex (fun b o a => ⟨(h.box b o (aW _ a)).1, by
  rcases (h.box b o (aW _ a)).2.2 with h | h
  ·exact h
  ·exact h.elim⟩) (by have := h.nd; rw [bh] at this; exact (aR.1 this).1)
theorem ST.Se {w W : World} {μ : jw} {L0 L1 L2 : List (Nat × Obj)} (h : ST dd (keys L0) w W μ (L1 ++ L2)) : pX dd L0 L1 w W :=
 ⟨⟨h.os, h.tape, h.output, h.drawn, h.size, h.kN⟩, fun b o a => ⟨(h.box b o (aW _ a)).1, (h.box b o (aW _ a)).2.2⟩, by have := h.nd; rw [bh] at this; exact (aR.1 this).1⟩
end
end Go.Proofs.YtbnbdigcbldfhaaGreat
namespace Go.Proofs.YtbnbdigcbldfhaaGreat
open Go.RowKit
variable {dd : Bool}
def ki {κ β : Type} (beq : κ → κ → Bool) (l : List (κ × β)) (k : κ) : Option β := (l.find? (fun p => beq k p.1)).map (·.2)
def lZ {κ β : Type} (beq : κ → κ → Bool) (l : List (κ × β)) (k : κ) (v : β) : List (κ × β) :=
 match l.findIdx? (fun p => beq k p.1) with
 | some i => l.set i (k, v)
 | none => l ++ [(k, v)]
structure tV {κ β : Type} (kenc : κ → Value) (vf : β → Value) (l : List (κ × β)) (es : Array MapEntry) (clock : Nat) : Prop where
 Et : es.toList.map (fun e => (e.key, e.val)) = l.map (fun p => (kenc p.1, vf p.2))
 born : es.toList.Pairwise (fun a b => a.born < b.born)
 lt : ∀ e ∈ es.toList, e.born < clock
def kl {κ β : Type} (kenc : κ → Value) (vf : β → Value) (v : Value) (l : List (κ × β)) (R : List (Nat × Obj)) : Prop :=
 ∃ m es clock, v = .map (some m) ∧ R = [(m, .map es clock)] ∧ tV kenc vf l es clock
def tX {κ β : Type} (kenc : κ → Value) (vf : β → Value) (μ : jw) (v : Value) (l : List (κ × β)) : Prop :=
 (v = .map none ∧ l = []) ∨ ∃ m es clock, v = .map (some m) ∧ μ m = some (.map es clock) ∧ tV kenc vf l es clock
theorem tX.mono {κ β : Type} {kenc : κ → Value} {vf : β → Value} {μ μ' : jw} {v : Value} {l : List (κ × β)} (h : tX kenc vf μ v l) (d : js μ μ') : tX kenc vf μ' v l := by
 rcases h with h | ⟨m, es, clock, h1, a, c⟩
 ·exact .inl h
 ·exact .inr ⟨m, es, clock, h1, d _ _ a, c⟩
theorem kl.at {κ β : Type} {kenc : κ → Value} {vf : β → Value} {μ : jw} {v : Value} {l : List (κ × β)} {R : List (Nat × Obj)} (h : kl kenc vf v l R) (c : ∀ b o, (b, o) ∈ R → μ b = some o) : tX kenc vf μ v l := by
 obtain ⟨m, es, clock, rfl, rfl, a⟩ := h
 exact .inr ⟨m, es, clock, rfl, c _ _ (aC.2 rfl), a⟩
structure ni {κ : Type} (P : Program) (kt : TypeId) (kenc : κ → Value) (beq : κ → κ → Bool) : Prop where
 check : ∀ b k W, (Instr.checkKey b 10000 kt (kenc k)).run P W = .ok () W
 find : ∀ (k : κ) (l : List κ) (es : List MapEntry), es.map (·.key) = l.map kenc → ∀ W, (Instr.findKey kt (kenc k) es).run P W = .ok ((l.findIdx? (fun x => beq k x)).bind fun i => (es[i]?).map fun e => (i, e.val)) W
 eq : ∀ k x, beq k x = true → kenc x = kenc k
 bits : ∀ k, Instr.sameBits 10000 (kenc k) (kenc k) = true
section
variable {P : Program} {W : World} {κ : Type} {kt : TypeId} {kenc : κ → Value} {beq : κ → κ → Bool}
theorem BT (a : ∀ x y W, (Op.equal kt (kenc x) (kenc y)).run P W = .ok (beq x y) W) (k : κ) : ∀ (l : List κ) (es : List MapEntry) (i : Nat), es.map (·.key) = l.map kenc →
  (Instr.findAsking kt (kenc k) es i).run P W = .ok ((l.findIdx? (fun x => beq k x)).bind fun j => (es[j]?).map fun e => (i + j, e.val)) W
 | [], [], i, h => by simp [Instr.findAsking]
 | [], _ :: _, i, h => by simp at h
 | _ :: _, [], i, h => by simp at h
 | x :: l, e :: es, i, h => by
  simp only [aO, bi] at h
  obtain ⟨h1, c⟩ := h
  simp only [Instr.findAsking, aZ, h1, a, aN, dp]
  cases d : beq k x with
  | true => simp
  | false =>
   simp only [ae, aA]
   rw [BT a k l es (i + 1) c]
   cases l.findIdx? (fun x => beq k x) with
   | none => rfl
   | some j => simp [dz, iu 1 j]
theorem J1 {kind : TypeDesc} (hk : ∀ a b, Instr.sameNow kind (.agg a) b = none) (a : Array Value) : ∀ (es : List MapEntry) (i : Nat), Instr.findNow kind (.agg a) es i = if es = [] then some none else none
 | [], i => by simp [Instr.findNow]
 | e :: es, i => by simp [Instr.findNow, hk]
theorem ni.struct {enc : κ → List Value} {i : Array Field} (o : P.underlying kt = some (.struct i)) (n : ∀ d x y W, (Op.equalIn (d + 10) kt (.agg (enc x).toArray) (.agg (enc y).toArray)).run P W = .ok (beq x y) W) (m : ∀ b k W, (Instr.checkKey b 10000 kt (.agg (enc k).toArray)).run P W = .ok () W) (he : ∀ k x, beq k x = true → x = k) (j : ∀ k, Instr.sameBits 10000 (.agg (enc k).toArray) (.agg (enc k).toArray) = true) : ni P kt (fun x => .agg (enc x).toArray) beq where
 check := m
 find := fun k l es h W => by
  have c : ∀ x y W, (Op.equal kt (.agg (enc x).toArray) (.agg (enc y).toArray)).run P W = .ok (beq x y) W := fun x y W => n 9990 x y W
  simp only [Instr.findKey, aZ, ar o, aN]
  rw [J1 (fun a b => by cases b <;> rfl)]
  by_cases g : es = []
  ·subst g
   have : l = [] := by simpa using h.symm
   subst this
   simp
  ·rw [ap g]
   dsimp only
   rw [show Instr.findAsking kt (.agg (enc k).toArray) es = Instr.findAsking kt (.agg (enc k).toArray) es 0 from rfl, BT c k l es 0 h]
   simp
 eq := fun k x h => by rw [he k x h]
 bits := j
theorem kG {a b : ByteArray} : kc a b = true ↔ a = b := by
 unfold kc
 rw [dB, dB]
 constructor
 ·intro h
  have h1 : a.data.toList = b.data.toList := by simpa using h
  exact gV (Array.toList_inj.1 h1)
 ·rintro rfl
  simp
theorem AH (a b : ByteArray) : (a == b) = kc a b := by
 rw [aM, kG]
 constructor
 ·intro h
  have h1 : (a.data == b.data) = true := h
  exact gV (by simpa using h1)
 ·rintro rfl
  show (a.data == a.data) = true
  simp
theorem BV (k : ByteArray) : ∀ (l : List ByteArray) (es : List MapEntry) (i : Nat), es.map (·.key) = l.map Value.string →
  Instr.findNow .string (.string k) es i = some ((l.findIdx? (fun x => kc k x)).bind fun j => (es[j]?).map fun e => (i + j, e.val))
 | [], [], i, h => by simp [Instr.findNow]
 | [], _ :: _, i, h => by simp at h
 | _ :: _, [], i, h => by simp at h
 | x :: l, e :: es, i, h => by
  simp only [aO, bi] at h
  obtain ⟨h1, a⟩ := h
  simp only [Instr.findNow, h1, Instr.sameNow, AH, dp]
  cases c : kc k x with
  | true => simp
  | false =>
   simp only [ae, aA]
   rw [BV k l es (i + 1) a]
   cases l.findIdx? (fun x => kc k x) with
   | none => rfl
   | some j => simp [dz, iu 1 j]
theorem rp (a : P.underlying kt = some .string) (n : Nat) (b : Bool) (k : ByteArray) (W : World) : (Instr.checkKey b (n + 1) kt (.string k)).run P W = .ok () W := by
 simp [Instr.checkKey, ar a]
theorem ni.string (a : P.underlying kt = some .string) : ni P kt Value.string kc where
 check := fun b k W => rp a 9999 b k W
 find := fun k l es h W => by
  simp only [Instr.findKey, aZ, ar a, aN]
  have := BV k l es 0 h
  rw [this]
  simp
 eq := fun k x h => by rw [kG.1 h]
 bits := fun k => by simp only [Instr.sameBits]; rw [AH]; exact kG.2 rfl
variable {β : Type} {vf : β → Value} {E : Nat → Value} {d : Option Nat} {ty : TypeId} {pos : String} {af : Array Edge} {g : Option (Nat × Bool)} {F : Nat → Prop} {w : World} {μ : jw} {L : List (Nat × Obj)}
theorem tV.keys {l : List (κ × β)} {es : Array MapEntry} {clock : Nat} (h : tV kenc vf l es clock) : es.toList.map (·.key) = (l.map (·.1)).map kenc := by
 have := aw (List.map Prod.fst) h.Et
 simpa [fa] using this
theorem tV.length {l : List (κ × β)} {es : Array MapEntry} {clock : Nat} (h : tV kenc vf l es clock) : es.size = l.length := by
 have := aw List.length h.Et
 simpa using this
theorem tV.get {l : List (κ × β)} {es : Array MapEntry} {clock : Nat} (h : tV kenc vf l es clock) (k : κ) :
  (((l.map (·.1)).findIdx? (fun x => beq k x)).bind fun i => (es.toList[i]?).map fun e => (i, e.val)) = (l.findIdx? (fun p => beq k p.1)).bind fun i => (l[i]?).map fun p => (i, vf p.2) := by
 rw [fc]
 show ((l.findIdx? (fun p => beq k p.1)).bind _) = _
 congr 1
 funext i
 have := aw (fun q => q[i]?) h.Et
 simp only [ck] at this
 cases h1 : es.toList[i]? with
 | none => rw [h1] at this; cases a : l[i]? with
  | none => rfl
  | some p => rw [a] at this; cases this
 | some e => rw [h1] at this; cases a : l[i]? with
  | none => rw [a] at this; cases this
  | some p => rw [a] at this; simp at this; simp [this.2]
theorem xe (l : List (κ × β)) (k : κ) : ki beq l k = (l.findIdx? (fun p => beq k p.1)).bind fun i => (l[i]?).map (·.2) := by
 induction l with
 | nil => rfl
 | cons p l ih =>
  simp only [ki, iI, dp] at ih ⊢
  cases beq k p.1 with
  | true => rfl
  | false =>
   simp only [ae, aA]
   rw [ih]
   cases l.findIdx? (fun p => beq k p.1) <;> simp
theorem Iu {t e : TypeId} {m x : Operand} {s z : Value} {l : List (κ × β)} {k : κ} (K : ni P kt kenc beq) (o : P.underlying t = some (.map kt e)) (c : ∀ w, (zeroValue e).run P w = .ok z w) (hm : iZ E m = s) (A : iZ E x = kenc k) (v : tX kenc vf (hp W) s l) :
  kq P E ⟨d, .lookup t m x false, ty, pos, af, g⟩ W (((ki beq l k).map vf).getD z) W := by
 show (do pure (.value (← Instr.lookup t (iZ E m) (iZ E x) false)) : Sem Next).run P W = _
 rw [hm, A]
 rcases v with ⟨rfl, rfl⟩ | ⟨q, es, clock, rfl, y, h⟩
 ·have := K.find k [] [] rfl W
  simp [Instr.lookup, ar o, K.check, this, c W, ki]
 ·have a : W.heap[q]? = some (.map es clock) := y
  have u : (getObj q : Sem Obj).run P W = .ok (.map es clock) W := by simp [getObj, Sem.run, a]
  have j := K.find k _ _ h.keys W
  rw [h.get k] at j
  simp only [Instr.lookup, aZ, ar o, aN, u, bP, K.check, j, xe]
  cases D : l.findIdx? (fun p => beq k p.1) with
  | none => simp [c W]
  | some i =>
   cases n : l[i]? with
   | none => simp [n, c W]
   | some p => simp [n]
theorem qR {l : List (κ × β)} {k : κ} {i : Nat} (h : l.findIdx? (fun p => beq k p.1) = some i) : ∃ p, l[i]? = some p ∧ beq k p.1 = true := by
 rw [cN] at h
 obtain ⟨h1, a, _⟩ := h
 exact ⟨l[i], bq h1, a⟩
theorem tV.put {l : List (κ × β)} {es : Array MapEntry} {clock : Nat} (h : tV kenc vf l es clock) (k : κ) (v : β) :
  match l.findIdx? (fun p => beq k p.1) with
  | some i => tV kenc vf (l.set i (k, v)) (es.modify i fun e => { e with key := kenc k, val := vf v }) clock
  | none => tV kenc vf (l ++ [(k, v)]) (es.push { key := kenc k, val := vf v, born := clock }) (clock + 1) := by
 cases o : l.findIdx? (fun p => beq k p.1) with
 | none =>
  refine ⟨?_, ?_, ?_⟩
  ·simp [h.Et]
  ·simp only [Array.toList_push, fY]
   exact ⟨h.born, by simp, fun a u b n => by simp at n; subst n; exact h.lt a u⟩
  ·intro e he
   simp at he
   rcases he with he | rfl
   ·exact Nat.lt_succ_of_lt (h.lt e (by simpa using he))
   ·exact bk _
 | some i =>
  obtain ⟨p, hp, _⟩ := qR o
  have w : i < l.length := (aF.1 hp).1
  have c : (es.modify i fun e => { e with key := kenc k, val := vf v }).toList.map (·.born) = es.toList.map (·.born) := by
   apply cC
   intro j
   simp only [ck, bR, cI]
   split
   ·cases es[j]? <;> simp
   ·rfl
  refine ⟨?_, ?_, ?_⟩
  ·apply cC
   intro j
   have g := aw (fun q => q[j]?) h.Et
   simp only [ck, bR] at g
   simp only [ck, bR, cI, dw]
   by_cases d : i = j
   ·subst d
    simp only [aK]
    rw [aq w]
    cases s : es[i]? with
    | none => rw [s, hp] at g; cases g
    | some e => rfl
   ·rw [ap d, ap d]; exact g
  ·have := h.born
   rw [← dX (f := fun e : MapEntry => e.born) (R := (· < ·))] at this ⊢
   rw [c]; exact this
  ·intro e he
   have : e.born ∈ es.toList.map (·.born) := by rw [← c]; exact aQ.2 ⟨e, he, rfl⟩
   obtain ⟨e', m, t⟩ := aQ.1 this
   rw [← t]; exact h.lt e' m
theorem xv {W : World} {r : Nat} {es : Array MapEntry} {c : Nat} (d : W.heap[r]? = some (.map es c)) (a : Obj) : (setObj r a).run P W = .ok () (ChangeMaps.setBlock W r a) := by
 simp [setObj, Sem.run, d, ChangeMaps.setBlock]
theorem ST.setBlock {A B : List (Nat × Obj)} {b : Nat} {o : Obj} (h : ST dd F w W μ (A ++ (b, o) :: B)) (c : Obj) : ST dd F w (ChangeMaps.setBlock W b c) μ (A ++ (b, c) :: B) := by
 have d := (h.box b o (by simp)).1
 have a := mB d
 refine h.put ⟨rfl, rfl, rfl, aJ _, by simp [ChangeMaps.setBlock]⟩ (fun k hk => ?_) ?_
 ·simp only [ChangeMaps.setBlock]
  rw [Array.getElem?_setIfInBounds_ne (fun e => hk e.symm)]
 ·simp only [ChangeMaps.setBlock]
  rw [Array.getElem?_setIfInBounds_self_of_lt a]
theorem yy {I : Value → World → Prop} (X : List (Nat × Obj)) {Y R : List (Nat × Obj)} {t e : TypeId} {m x y : Operand} {G : Value} {l : List (κ × β)} {k : κ} {v : β} (K : ni P kt kenc beq) (M : P.underlying t = some (.map kt e)) (n : ST dd F w W μ (X ++ (R ++ Y))) (h : kl kenc vf G l R) (hm : iZ E m = G) (T : iZ E x = kenc k) (U : iZ E y = vf v) (L : ∀ W' R', ST dd F w W' μ (X ++ (R' ++ Y)) → kl kenc vf G (lZ beq l k v) R' → I undef W') : lD P E ⟨d, .mapUpdate t m x y, ty, pos, af, g⟩ W I := by
 obtain ⟨c, es, clock, rfl, rfl, z⟩ := h
 have A : W.heap[c]? = some (.map es clock) := (n.box c (.map es clock) (by simp)).1
 have J : (getObj c : Sem Obj).run P W = .ok (.map es clock) W := by simp [getObj, Sem.run, A]
 have o := K.find k _ _ z.keys W
 rw [z.get k] at o
 have a := z.put (beq := beq) k v
 have j : ∀ W', (Instr.mapUpdate t (.map (some c)) (kenc k) (vf v)).run P W = .ok () W' → (execOp (iZ E) ⟨d, .mapUpdate t m x y, ty, pos, af, g⟩).run P W = .ok .skip W' := by
  intro W' Q
  show (do Instr.mapUpdate t (iZ E m) (iZ E x) (iZ E y); pure .skip : Sem Next).run P W = _
  rw [hm, T, U]
  simp [Q]
 cases s : l.findIdx? (fun p => beq k p.1) with
 | none =>
  rw [s] at o a
  refine .inr (.inl ⟨ChangeMaps.setBlock W c (.map (es.push { key := kenc k, val := vf v, born := clock }) (clock + 1)), j _ ?_, L _ [(c, _)] (n.setBlock _) ⟨c, _, _, rfl, rfl, ?_⟩⟩)
  ·simp [Instr.mapUpdate, ar M, J, K.check, o, xv A]
  ·rw [lZ, s]; exact a
 | some i =>
  obtain ⟨p, hp, D⟩ := qR s
  rw [s] at o a
  simp only [aa, hp, cw] at o
  have u : ((es[i]?).map (·.key)).getD (kenc k) = kenc k := by
   have := aw (fun q => q[i]?) z.keys
   simp only [ck, hp, cw, bR] at this
   rw [this]
   simp [K.eq k p.1 D]
  refine .inr (.inl ⟨ChangeMaps.setBlock W c (.map (es.modify i fun e => { e with key := kenc k, val := vf v }) clock), j _ ?_, L _ [(c, _)] (n.setBlock _) ⟨c, _, _, rfl, rfl, ?_⟩⟩)
  ·simp only [Instr.mapUpdate, aZ, ar M, J, K.check, o, aN, u, Instr.keyThatStays, K.bits, aK, bP]
   exact xv A _
  ·rw [lZ, s]; exact a
theorem AL {c : Value → World → Prop} {t : TypeId} (kenc : κ → Value) (vf : β → Value) (a : ST dd F w W μ L) (h : ∀ W' v R, ST dd F w W' μ (R ++ L) → kl kenc vf v [] R → c v W') : lD P E ⟨d, .makeMap t none, ty, pos, af, g⟩ W c :=
 .inl ⟨.map (some W.heap.size), W.alloc (.map #[] 0), by
   show (do pure (.value (← Instr.makeMap t none)) : Sem Next).run P W = _
   simp [Instr.makeMap, newObj, Sem.run], h _ _ [(W.heap.size, .map #[] 0)] (a.alloc _) ⟨_, _, _, rfl, rfl, ⟨rfl, by simp, by simp⟩⟩⟩
end
end Go.Proofs.YtbnbdigcbldfhaaGreat
namespace Go.Proofs.YtbnbdigcbldfhaaGreat
open Go.RowKit
variable {dd : Bool}
open Classical in
noncomputable def DW {α β : Type} (l : List α) (f : List α → Option β) : Option β :=
 if h : ∃ r, ∀ o, o.Perm l → f o = some r then some h.choose else none
theorem FA {α β : Type} {l : List α} {f : List α → Option β} {r : β} (h : ∀ o, o.Perm l → f o = some r) : DW l f = some r := by
 have a : ∃ r, ∀ o, o.Perm l → f o = some r := ⟨r, h⟩
 unfold DW
 rw [dif_pos a]
 have h1 := a.choose_spec l (.refl l)
 rw [h l (.refl l)] at h1
 exact h1.symm
end Go.Proofs.YtbnbdigcbldfhaaGreat
namespace Go.Proofs.YtbnbdigcbldfhaaGreat
open Go.RowKit
variable {dd : Bool}
def EN {α β : Type} (P : Program) (fv : Value) (μ : jw) (a : α → List Value) (c : β → Value) (pm : α → Option β) : Prop :=
 ∃ f caps, fv = .func (.func f) #[] caps ∧ (∀ args w, (callFunc f args).run P w = .ok (.enter f args) w) ∧ ∀ W x r, js μ (hp W) → pm x = some r → jv true P f (a x ++ caps.toList) W (c r)
def qt {α β : Type} (P : Program) (fv : Value) (μ : jw) (a : α → List Value) (c : β → Value) (pm : α → Option β) : Prop :=
 ∃ f first caps, fv = .func (.func f) first caps ∧ (∀ args w, (callFunc f args).run P w = .ok (.enter f args) w) ∧ ∀ W x r, js μ (hp W) → pm x = some r → jv false P f (first.toList ++ (a x ++ caps.toList)) W (c r)
theorem qt.form {α β : Type} {P : Program} {fv : Value} {μ : jw} {c : α → List Value} {d : β → Value} {pm : α → Option β} (h : qt P fv μ c d pm) : ∃ f a b, fv = .func f a b := let ⟨f, a, b, h, _⟩ := h; ⟨_, a, b, h⟩
section
variable {P : Program} {W : World} {E : Nat → Value} {d : Option Nat} {ty : TypeId} {pos : String} {af : Array Edge} {g : Option (Nat × Bool)} {F : Nat → Prop} {w : World} {μ μ0 : jw} {L : List (Nat × Obj)}
theorem qt.mono {α β : Type} {fv : Value} {a : α → List Value} {c : β → Value} {pm : α → Option β} (h : qt P fv μ a c pm) (i : js μ μ0) : qt P fv μ0 a c pm := by
 obtain ⟨f, first, caps, h1, d, g⟩ := h
 exact ⟨f, first, caps, h1, d, fun W x r h => g W x r (i.trans h)⟩
theorem xV {α β : Type} {K : Value → World → Prop} {fv : Value} {c : α → List Value} {k : β → Value} {pm : α → Option β} {i : Operand} {ax : Array Operand} {ats : Array TypeId} (x : α) {r : β} (a : ST false F w W μ L) (s : qt P fv μ0 c k pm) (u : js μ0 μ) (t : iZ E i = fv) (q : ax.map (iZ E) ++ (#[] : Array Value) = (c x).toArray) (hm : pm x = some r) (h : ∀ W', ST false F w W' μ L → K (k r) W') : lD P E ⟨d, .call ⟨.value i, ax, ats⟩, ty, pos, af, g⟩ W K := by
 obtain ⟨f, first, caps, rfl, m, n⟩ := s
 have j : ax.map (iZ E) = (c x).toArray := by simpa using q
 refine .inr (.inr ⟨f, (first.toList ++ (c x ++ caps.toList)).toArray, ?_, bp (n W x r (u.trans a.jf) hm) (fun _ _ ⟨o, p⟩ => ⟨_, o, h _ (a.Ej p)⟩)⟩)
 show (do let d ← resolve (iZ E) ⟨.value i, ax, ats⟩ ty; invoke d.target d.args : Sem Next).run P W = _
 simp only [resolve, t, Deferred.ofValue, aZ, bP, aN, invoke, j, m]
 congr 2
 simp
end
end Go.Proofs.YtbnbdigcbldfhaaGreat
namespace Go.Proofs.YtbnbdigcbldfhaaGreat
open Go.RowKit
variable {dd : Bool}
def Aj (A : List (Nat × Obj)) : jw := fun b => (A.find? (fun p => p.1 == b)).map (·.2)
theorem yN {A : List (Nat × Obj)} {W : World} (h : ∀ b o, (b, o) ∈ A → W.heap[b]? = some o) : ∀ b o, Aj A b = some o → W.heap[b]? = some o := fun b o a => by
 unfold Aj at a
 cases c : A.find? (fun p => p.1 == b) with
 | none => rw [c] at a; cases a
 | some p =>
  rw [c] at a
  cases a
  have h1 := List.mem_of_find?_eq_some c
  have d := List.find?_some c
  simp at d
  subst d
  exact h _ _ h1
theorem At.of {M : jw} {b : Nat} {cs : Array Value} {T : TypeId} {fr : Nat × Nat} (h : M b = some (.cells cs T fr)) (ys : List Value) (c : cs.toList = ys) : At M (.pointer (some ⟨b, 0, none⟩)) ys :=
 ⟨b, 0, cs, T, fr, rfl, h, fun j y a => by subst c; simpa using a⟩
section
variable {F : Nat → Prop} {w W W' : World} {μ μ' : jw} {L L0 L1 L2 : List (Nat × Obj)}
theorem ST.G1 (h : ST dd F w W μ L) (a : L.Perm (L0 ++ L2)) : ∀ b o, (b, o) ∈ L2 → pY W L0 b = some o := fun b o c => by
 have h1 := (h.perm a).at_ (bY _ c)
 unfold pY
 rw [ap (Ei (h.perm a).nd c)]
 exact h1
theorem ST.held (h : ST dd F w W μ L) (a : L.Perm (L0 ++ L2)) : By L0 W := fun b o c => ((h.perm a).box b o (aW _ c)).1
theorem ST.Od (h : ST dd F w W μ L) (a : L.Perm (L0 ++ L2)) : (L0.map (·.1)).Nodup := by
 have := (h.perm a).nd
 rw [bh] at this
 exact (aR.1 this).1
theorem ST.OG (h : ST dd F w W μ L) (a : L.Perm (L0 ++ L2)) : js μ (pY W L0) := (h.perm a).jT (fun _ hp => aW _ hp)
end
section
variable {P : Program} {E : Nat → Value} {W : World} {d : Option Nat} {ty : TypeId} {pos : String} {af : Array Edge} {g : Option (Nat × Bool)}
 {F : Nat → Prop} {w : World} {μ : jw} {L : List (Nat × Obj)}
theorem PK {K : Value → World → Prop} {K' : Value → List (Nat × Obj) → World → Prop} {f : FuncId} {fv : Operand} {ax : Array Operand} {ats : Array TypeId} {caps : Array Value} {args : List Value} (L0 L2 : List (Nat × Obj)) (a : ST dd F w W μ L) (c : L.Perm (L0 ++ L2)) (p : iZ E fv = .func (.func f) #[] caps) (he : ∀ args w, (callFunc f args).run P w = .ok (.enter f args) w) (m : ax.map (iZ E) ++ (#[] : Array Value) = args.toArray) (n : By L0 W → (L0.map (·.1)).Nodup → js μ (pY W L0) → (∀ b o, (b, o) ∈ L2 → pY W L0 b = some o) → jY dd P f (args ++ caps.toList) W L0 K') (h : ∀ W' v μ' L1, ST dd F w W' μ' (L1 ++ L2) → js μ μ' → Lo F w μ μ' → (∀ b, W.heap.size ≤ b → ∀ o, pY W' L1 b = some o → μ' b = some o) → K' v L1 W' → K v W') : lD P E ⟨d, .call ⟨.value fv, ax, ats⟩, ty, pos, af, g⟩ W K := by
 have i : ax.map (iZ E) = args.toArray := by simpa using m
 refine Ef (args := (args ++ caps.toList).toArray) p he (by rw [i]; simp) (bp (n (a.held c) (a.Od c) (a.OG c) (a.G1 c)) (fun _ W' ⟨v, L1, h1, j, k⟩ => ⟨v, h1, h W' v _ L1 ((a.perm c).back j) ((a.perm c).He W' L1) ((a.perm c).Jz W' L1) ?_ k⟩))
 intro b s o q
 unfold A0
 rw [ap (by omega)]
 exact q
theorem Sl.lift {α : Type} {enc : α → List Value} {k : Nat} {M μ' : jw} {B : Nat} {v : Value} {l : List α} (h : Sl (Pl enc) k M v l) (p : Fr B v) (n : ∀ b, B ≤ b → ∀ o, M b = some o → μ' b = some o) : Sl (Pl enc) k μ' v l := by
 obtain ⟨A, c, h1, d, g, i⟩ := h
 refine ⟨A, c, h1, d, g, fun q => ?_⟩
 obtain ⟨b, off, cs, T, fr, a, j, m⟩ := i q
 exact ⟨b, off, cs, T, fr, a, n b (p b (by rw [h1, a]; rfl)) _ j, m⟩
theorem xf {t : TypeId} (dd : Nat) {s u : Array TypeId} {b : Bool} (d : P.underlying t = some (.func s u b)) (f : Fn) (a c : Array Value) (W : World) : (Op.equalIn (dd + 1) t (.func f a c) .nilFunc).run P W = .ok false W := by
 simp [Op.equalIn, ar d]
theorem JX {tx tv : TypeId} {x y : Operand} {f : Fn} {a b : Array Value} {s u : Array TypeId} {bb : Bool} (h : P.underlying tx = some (.func s u bb)) (i : iZ E x = .func f a b) (j : iZ E y = .nilFunc) :
  kq P E ⟨d, .binOp .neq tx x y tv, ty, pos, af, g⟩ W (.bool true) W := by
 show (do let r ← (do eqGuard .neq tx x y (iZ E x) (iZ E y); binOp .neq tx (iZ E x) (iZ E y)); pure (.value r) : Sem Next).run P W = _
 rw [i, j]
 have c := xf 9999 h f a b W
 simp [eqGuard, binOp, Op.equal, show Op.maxDepth = 9999 + 1 from rfl, c]
theorem JR {tx tv : TypeId} {x y : Operand} {f : Fn} {a b : Array Value} {s u : Array TypeId} {bb : Bool} (h : P.underlying tx = some (.func s u bb)) (i : iZ E x = .func f a b) (j : iZ E y = .nilFunc) :
  kq P E ⟨d, .binOp .eql tx x y tv, ty, pos, af, g⟩ W (.bool false) W := by
 show (do let r ← (do eqGuard .eql tx x y (iZ E x) (iZ E y); binOp .eql tx (iZ E x) (iZ E y)); pure (.value r) : Sem Next).run P W = _
 rw [i, j]
 have c := xf 9999 h f a b W
 simp [eqGuard, binOp, Op.equal, show Op.maxDepth = 9999 + 1 from rfl, c]
end
def wj {κ β : Type} (beq : κ → κ → Bool) (l : List (κ × β)) (k : κ) (z : β) : β := (ki beq l k).getD z
section
variable {P : Program} {W : World} {κ β : Type} {kt : TypeId} {kenc : κ → Value} {beq : κ → κ → Bool} {vf : β → Value} {E : Nat → Value} {d : Option Nat} {ty : TypeId} {pos : String} {af : Array Edge} {g : Option (Nat × Bool)} {F : Nat → Prop} {w : World} {μ : jw} {L R : List (Nat × Obj)} {v : Value} {left : List (κ × β)}
theorem uu {t e : TypeId} {m x : Operand} {a : Value} {l : List (κ × β)} {k : κ} {z : β} (K : ni P kt kenc beq) (i : P.underlying t = some (.map kt e)) (n : ∀ w, (zeroValue e).run P w = .ok (vf z) w) (hm : iZ E m = a) (j : iZ E x = kenc k) (c : tX kenc vf (hp W) a l) :
  kq P E ⟨d, .lookup t m x false, ty, pos, af, g⟩ W (vf (wj beq l k z)) W := by
 have := Iu (d := d) (ty := ty) (pos := pos) (af := af) (g := g) K i n hm j c
 rw [wj]
 cases h : ki beq l k with
 | none => rw [h] at this; exact this
 | some y => rw [h] at this; exact this
theorem kl.one {a : Value} {l : List (κ × β)} (h : kl kenc vf a l R) : a.oneCell' = true := by obtain ⟨m, es, clock, rfl, _⟩ := h; rfl
theorem kl.form {a : Value} {l : List (κ × β)} (h : kl kenc vf a l R) : ∃ m, a = .map (some m) := by obtain ⟨m, es, clock, rfl, _⟩ := h; exact ⟨m, rfl⟩
theorem kl.nd {a : Value} {l : List (κ × β)} (h : kl kenc vf a l R) : (R.map (·.1)).Nodup := by obtain ⟨m, es, clock, rfl, rfl, _⟩ := h; simp
theorem kl.CH {a : Value} {l : List (κ × β)} (h : kl kenc vf a l R) : tX kenc vf (Aj R) a l := by
 obtain ⟨m, es, clock, rfl, rfl, c⟩ := h
 exact .inr ⟨m, es, clock, rfl, by simp [Aj], c⟩
end
def ml {α : Type} (l : List α) (i : Nat) (z : α) : List α := l.take i ++ List.replicate (l.length - i) z
theorem tb {α : Type} (l : List α) (i : Nat) (z : α) (h : i ≤ l.length) : (ml l i z).length = l.length := by simp [ml]; omega
theorem ET {α : Type} (l : List α) (i : Nat) (z : α) (h : i ≤ l.length) : (ml l i z).take i = l.take i := by
 simp only [ml]
 rw [dl, bU (by simp; omega)]
 simp; omega
end Go.Proofs.YtbnbdigcbldfhaaGreat
namespace Go.Proofs.YtbnbdigcbldfhaaGreat
open Go.RowKit
theorem HC {P : Program} {cs : Array Value} {b : Bool} {n : Nat} {W : World} : ∀ (l : List Field),
  (∀ f ∈ l, f.name ≠ "_" → ∃ v, (part f.type cs f.offset).run P W = .ok v W ∧ (Instr.checkKey b n f.type v).run P W = .ok () W) →
  ((forIn l PUnit.unit fun f (_ : PUnit) => do
   if f.name ≠ "_" then Instr.checkKey b n f.type (← part f.type cs f.offset)
   pure (ForInStep.yield PUnit.unit)) : Sem PUnit).run P W = .ok PUnit.unit W
 | [], _ => by simp
 | f :: l, h => by
  have ih := HC l (fun f d => h f (cM _ d))
  simp only [List.forIn_cons, aZ]
  by_cases a : f.name ≠ "_"
  ·obtain ⟨v, h1, c⟩ := h f (by simp) a
   simp only [aq a, aZ, h1, aN, c, bP]
   exact ih
  ·simp only [ap a, aZ, bP, aN]
   exact ih
theorem xR {P : Program} {kt : TypeId} {a : Array Field} {l : List Field} {cs : Array Value} {b : Bool} {n : Nat} {W : World} (d : P.underlying kt = some (.struct a)) (c : a.toList = l) (h : ∀ f ∈ l, f.name ≠ "_" → ∃ v, (part f.type cs f.offset).run P W = .ok v W ∧ (Instr.checkKey b n f.type v).run P W = .ok () W) : (Instr.checkKey b (n + 1) kt (.agg cs)).run P W = .ok () W := by
 obtain ⟨a⟩ := a
 subst c
 simp only [Instr.checkKey, aZ, ar d, aN, List.forIn_toArray]
 have := HC (P := P) (cs := cs) (b := b) (n := n) (W := W) a h
 simp only [aZ] at this
 first | rw [this]; rfl | simpa using this
variable {dd : Bool}
def lI (b : Bool) : Option Unit := if b = true then some () else none
theorem EY {b : Bool} {u : Unit} (h : lI b = some u) : b = true := by
 unfold lI at h; split at h
 ·assumption
 ·cases h
theorem pc {a c : Int} {u : Unit} (h : lI (decide (0 ≤ a) && decide (a ≤ c)) = some u) : 0 ≤ a := by have := EY h; simp at this; exact this.1
theorem oZ {a c : Int} {u : Unit} (h : lI (decide (0 ≤ a) && decide (a ≤ c)) = some u) : a ≤ c := by have := EY h; simp at this; exact this.2
def Bd (k : Nat) (v : Value) (i : Nat) (u : Value) : Prop := ∃ A n c A' a, v = .slice A n c ∧ u = .slice A' (n - i) a ∧ i ≤ n ∧ (i < n → ∃ b o, A = some ⟨b, o, none⟩ ∧ A' = some ⟨b, o + i * k, none⟩)
section
variable {P : Program} {E : Nat → Value} {W : World} {d : Option Nat} {ty : TypeId} {pos : String} {af : Array Edge} {g : Option (Nat × Bool)}
 {F : Nat → Prop} {w : World} {μ : jw} {L : List (Nat × Obj)} {α : Type} {e' : TypeId} {enc : α → List Value} {k : Nat} {v : Value} {l : List α} {R : List (Nat × Obj)}
theorem qN {t e : TypeId} {x a : Operand} {z : IntKind} {i : Int} (n : P.underlying t = some (.slice e)) (he : ∀ w, (sizeOf e).run P w = .ok k w) (o : iZ E x = v) (j : iZ E a = .int z i) (h : jl e' enc k v l R) (q : 0 ≤ i) (m : i ≤ l.length) :
  ∃ u, Bd k v i.toNat u ∧ ∀ W, kq P E ⟨d, .slice t x (some a) none none, ty, pos, af, g⟩ W u W := by
 rcases h with ⟨rfl, rfl, rfl⟩ | ⟨c, cap, p, rfl, rfl, h1, A, D, G⟩
 ·have : i = 0 := by simp at m; omega
  subst this
  refine ⟨.slice none 0 0, ⟨none, 0, 0, none, 0, rfl, rfl, aJ _, fun h => absurd h (by simp)⟩, fun W => ?_⟩
  show (do pure (.value (← Instr.sliceAt t (iZ E x) (some (iZ E a)) none none)) : Sem Next).run P W = _
  rw [o, j]
  simp [Instr.sliceAt, Instr.slice, Instr.sliceBounds, Instr.sliceBound, asIntOf, ar n, he W]
 ·refine ⟨.slice (some (if cap = i.toNat then ⟨c, 0, none⟩ else (Addr.add ⟨c, 0, none⟩ (i.toNat * k)))) (l.length - i.toNat) (cap - i.toNat), ⟨_, _, _, _, _, rfl, rfl, by omega, fun y => ⟨c, 0, rfl, ?_⟩⟩, fun W => ?_⟩
  ·rw [ap (by omega)]; simp [bZ]
  ·show (do pure (.value (← Instr.sliceAt t (iZ E x) (some (iZ E a)) none none)) : Sem Next).run P W = _
   rw [o, j]
   have s : 0 ≤ i ∧ i ≤ (l.length : Int) := ⟨q, m⟩
   simp [Instr.sliceAt, Instr.slice, Instr.sliceBounds, Instr.sliceBound, asIntOf, ar n, he W, s]
   split <;> rfl
theorem tP {i j : Nat} {x0 : α} (h : (l.drop i)[j]? = some x0) : l[i + j]? = some x0 := by rwa [cq] at h
theorem Dv {t e : TypeId} {x : Operand} {u : Value} {i : Nat} (m : P.underlying t = some (.slice e)) (o : iZ E x = u) (hu : Bd k v i u) (h : jl e' enc k v l R) : kq P E ⟨d, .call ⟨.builtin .len, #[x], #[t]⟩, ty, pos, af, g⟩ W (.int .i64 ((l.length - i : Nat) : Int)) W := by
 obtain ⟨A, n, c, A', p, h1, j, s, _⟩ := hu
 subst j
 have : n = l.length := by
  rcases h with ⟨rfl, rfl, rfl⟩ | ⟨q, cap, a, rfl, rfl, _⟩
  ·cases h1; rfl
  ·cases h1; rfl
 subst this
 exact yq m o
theorem qT {t e : TypeId} {x m : Operand} {T : IntKind} {i : Int} {x0 : α} {u : Value} {o : Nat} (M : P.underlying t = some (.slice e)) (he : ∀ w, (sizeOf e).run P w = .ok k w) (Q : iZ E x = u) (J : iZ E m = .int T i) (h : jl e' enc k v l R) (hu : Bd k v o u) (D : 0 ≤ i) (L : (l.drop o)[i.toNat]? = some x0) :
  ∃ p, CE R k p (o + i.toNat) ∧ ∀ W, kq P E ⟨d, .indexAddr t x m, ty, pos, af, g⟩ W p W := by
 have a := tP L
 have j : o + i.toNat < l.length := (aF.1 a).1
 rcases h with ⟨rfl, rfl, rfl⟩ | ⟨z, cap, q, rfl, rfl, h1, Y, Z, h4⟩
 ·simp at j
 obtain ⟨A, n, c, A', U, s, rfl, h7, G⟩ := hu
 cases s
 obtain ⟨b, oo, y, rfl⟩ := G (by omega)
 cases y
 refine ⟨.pointer (some ⟨z, (o + i.toNat) * k, none⟩), ⟨_, _, rfl, rfl⟩, fun W => ?_⟩
 show (do pure (.value (← Instr.indexAt t (iZ E x) (iZ E m))) : Sem Next).run P W = _
 rw [Q, J]
 have I : 0 ≤ i ∧ i < ((l.length - o : Nat) : Int) := ⟨D, by omega⟩
 simp [Instr.indexAt, asIntOf, ar M, he W, I, bZ, bn]
theorem Gh {s : py α} {t e : TypeId} {x ih : Operand} {U : IntKind} {j : Int} (R : P.underlying t = some (.slice e)) (he : ∀ w, (sizeOf e).run P w = .ok k w) (m : iZ E x = v) (M : iZ E ih = .int U j) (h : Sl s k μ v l) (z : 0 ≤ j) (hl : j ≤ l.length) :
  ∃ q, (Sl s k μ q (l.take j.toNat) ∧ ∀ B, Fr B v → Fr B q) ∧ ∀ W, kq P E ⟨d, .slice t x none (some ih) none, ty, pos, af, g⟩ W q W := by
 obtain ⟨A, c, rfl, Z, D, G⟩ := h
 have Q : j.toNat ≤ l.length := by omega
 refine ⟨.slice A (l.take j.toNat).length c, ⟨⟨A, c, rfl, by simp; omega, D, fun hp => ?_⟩, fun B L b n => L b (by cases A with | none => simp [Value.ownBlock] at n | some a => (obtain ⟨u, Y, p⟩ := a; cases p <;> simp [Value.ownBlock] at n ⊢ <;> exact n))⟩, fun W => ?_⟩
 ·have o : 0 < l.length := by simp at hp; omega
  obtain ⟨b, off, cs, T, fr, rfl, I, J⟩ := G o
  refine ⟨b, off, cs, T, fr, rfl, I, fun i x m => ?_⟩
  rw [ct] at m
  split at m
  ·exact J i x m
  ·cases m
 ·show (do pure (.value (← Instr.sliceAt t (iZ E x) none (some (iZ E ih)) none)) : Sem Next).run P W = _
  rw [m, M]
  have n : 0 ≤ j ∧ j ≤ (c : Int) := ⟨z, by omega⟩
  have y : min j.toNat l.length = j.toNat := by omega
  simp [Instr.sliceAt, Instr.slice, Instr.sliceBounds, Instr.sliceBound, asIntOf, ar R, he W, n, y]
  intro _
  cases A with
  | none => rfl
  | some a => obtain ⟨u, Y, p⟩ := a; cases p <;> simp [Addr.add]
theorem BR (ys : List Value) (m : Nat) : (Builtin.zeroCells ys.toArray m).toList = (List.replicate m ys).flatten := by
 unfold Builtin.zeroCells
 simp only [Array.toList_map, Array.toList_range, bJ]
 rcases cF ys.length with a | a
 ·have : ys = [] := cD.1 a
  subst this
  simp
 apply cC
 intro q
 by_cases d : q < m * ys.length
 ·have h1 : q / ys.length < m := (fG a).2 d
  have c : q % ys.length < ys.length := Nat.mod_lt _ a
  have := vH (enc := fun _ : Unit => ys) (fun _ => rfl) (List.replicate m ()) (q / ys.length) () (by simp [h1]) (q % ys.length) ys[q % ys.length] (by simp [c])
  rw [Nat.div_add_mod' q ys.length] at this
  rw [gx] at this
  rw [this]
  simp [d, c]
 ·rw [bQ (by simp; omega), bQ (by simp; omega)]
theorem Kf {K : Value → World → Prop} (z : α) (X : List (Nat × Obj)) {Y : List (Nat × Obj)} {t e : TypeId} {x : Operand} {u zv : Value} {i : Nat} (p : ST dd F w W μ (X ++ (R ++ Y))) (h : jl e' enc k v l R) (hk : ∀ x, (enc x).length = k) (h1 : ∀ x, ∀ u ∈ enc x, u.oneCell' = true) (Q : P.underlying t = some (.slice e)) (hz : ∀ w, (zeroValue e).run P w = .ok zv w) (hu : Bd k v i u) (hc : zv.cells = (enc z).toArray) (hx : iZ E x = u) (L : ∀ W' R', ST dd F w W' μ (X ++ (R' ++ Y)) → jl e' enc k v (ml l i z) R' → K (.tuple #[]) W') : lD P E ⟨d, .call ⟨.builtin .clear, #[x], #[t]⟩, ty, pos, af, g⟩ W K := by
 have j : ∀ (W' : World), (Builtin.clear_ #[t] ty #[u]).run P W = .ok (.tuple #[]) W' → (execOp (iZ E) ⟨d, .call ⟨.builtin .clear, #[x], #[t]⟩, ty, pos, af, g⟩).run P W = .ok (.value (.tuple #[])) W' := by
  intro W' hV
  show (do let d ← resolve (iZ E) ⟨.builtin .clear, #[x], #[t]⟩ ty; invoke d.target d.args : Sem Next).run P W = _
  simp [resolve, invoke, builtin, hx, hV]
 obtain ⟨A, n, c, A', c', e1, rfl, D, h8⟩ := hu
 rcases h with ⟨rfl, rfl, rfl⟩ | ⟨s, cap, a, rfl, rfl, Z, q2, I, q4⟩
 ·cases e1
  refine .inl ⟨_, W, j W ?_, L W [] p (by simpa [ml] using jl.nil e' enc k)⟩
  simp only [Builtin.clear_, Nat.zero_sub]
  cases A' <;> simp [ar Q]
 ·cases e1
  by_cases hi : i < l.length
  ·obtain ⟨b, o, e2, rfl⟩ := h8 hi
   cases e2
   have U : ∀ m, (Builtin.zeroCells zv.cells m).toList = (List.replicate m (enc z)).flatten := by
    intro m
    rw [hc]; exact BR _ _
   have hb := (p.box s (.cells a e' (0, 0)) (by simp)).1
   have hle : i * k + (l.length - i) * k = l.length * k := by rw [← bn]; congr 1; omega
   have hlen : l.length * k ≤ c * k := bd _ Z
   have q : ((List.replicate (l.length - i) (enc z)).flatten).length = (l.length - i) * k := by simp [hk]
   have y : ∀ v ∈ (List.replicate (l.length - i) (enc z)).flatten, v.oneCell' = true := by
    intro v G
    obtain ⟨ys, T, G⟩ := fK.1 G
    rw [(List.mem_replicate.1 T).2] at G
    exact h1 z v G
   have hs := gO (P := P) s (i * k) e' ((List.replicate (l.length - i) (enc z)).flatten) 0 a W hb (by rw [q, I]; omega) y
   rw [iv, q, hle] at hs
   refine .inl ⟨_, W.setRow s (a.toList.take (i * k) ++ (List.replicate (l.length - i) (enc z)).flatten ++ a.toList.drop (l.length * k)).toArray, j _ ?_, L _ [(s, .cells (a.toList.take (i * k) ++ (List.replicate (l.length - i) (enc z)).flatten ++ a.toList.drop (l.length * k)).toArray e' (0, 0))] (p.store _) (.inr ⟨s, c, _, by rw [tb _ _ _ D], rfl, by rw [tb _ _ _ D]; exact Z, q2, ?_, ?_⟩)⟩
   ·have hn : l.length - i = (l.length - i - 1) + 1 := by omega
    simp only [Builtin.clear_]
    rw [hn]
    simp only [ar Q, aZ, aN, dU, eW, hz, cd]
    rw [← hn, U, hs]
    simp
   ·have J : a.toList.length = c * k := by simpa using I
    rw [bJ, aj, aj, bA, cg, q, J, bO (by omega)]
    omega
   ·rw [tb _ _ _ D, ml, bh, ez, AT hk l i D, ← q4, ej, bO (by omega), gx]
    have J : a.toList.length = c * k := by simpa using I
    have e3 : (a.toList.take (i * k) ++ (List.replicate (l.length - i) (enc z)).flatten).length = l.length * k := by rw [aj, bA, q, J, bO (by omega)]; omega
    show List.take (l.length * k) (a.toList.take (i * k) ++ (List.replicate (l.length - i) (enc z)).flatten ++ a.toList.drop (l.length * k)) = _
    rw [dl, bU (by rw [e3]; exact aJ _), e3, Nat.sub_self]
    simp
  ·have M : i = l.length := by omega
   subst M
   refine .inl ⟨_, W, j W ?_, L W _ p ?_⟩
   ·simp only [Builtin.clear_, Nat.sub_self]
    cases A' <;> simp [ar Q]
   ·simp only [ml, List.take_length, Nat.sub_self, List.replicate_zero, bu]
    exact .inr ⟨s, c, a, rfl, rfl, Z, q2, I, q4⟩
end
end Go.Proofs.YtbnbdigcbldfhaaGreat
namespace Go.Proofs.YtbnbdigcbldfhaaGreat
open Go.RowKit
variable {dd : Bool}
section
variable {P : Program} {E : Nat → Value} {W : World} {d : Option Nat} {ty : TypeId} {pos : String} {af : Array Edge} {g : Option (Nat × Bool)}
 {F : Nat → Prop} {w : World} {μ : jw} {L : List (Nat × Obj)}
theorem LU {K : Value → World → Prop} {f : FuncId} {fv : Operand} {ax : Array Operand} {ats : Array TypeId} {args : List Value} {v : Value} (i : iZ E fv = .func (.func f) #[] #[]) (c : ax.map (iZ E) ++ (#[] : Array Value) = args.toArray) (j : (callFunc f args.toArray).run P W = .ok (.value v) W) (h : K v W) : lD P E ⟨d, .call ⟨.value fv, ax, ats⟩, ty, pos, af, g⟩ W K := by
 have a : ax.map (iZ E) = args.toArray := by simpa using c
 refine .inl ⟨v, W, ?_, h⟩
 show (do let d ← resolve (iZ E) ⟨.value fv, ax, ats⟩ ty; invoke d.target d.args : Sem Next).run P W = _
 simp only [resolve, i, Deferred.ofValue, aZ, bP, aN, invoke]
 rw [a]
 simpa using j
def wu (s : ByteArray) (c : Int) : Int := Lib.indexByte s.data.toList c.toNat.toUInt8
def nJ (a b : ByteArray) : Int := Lib.compareBytes a.data.toList b.data.toList
def wA (l : List Int) : List UInt8 := l.map fun x => x.toNat.toUInt8
def xn (a b : List Int) : Int := Lib.compareBytes (wA a) (wA b)
theorem Gw {f : FuncId} {fn : Func} (g : P.funcs[f]? = some fn) (a : (fn.name == "runtime.NumGoroutine") = false) (d : fn.body.isNone = true) (h : Extern.findNext fn = none) (he : Extern.find fn = some Extern.BytealgIndexByte.indexByte) (s : ByteArray) (c : Int) (w : World) :
  (callFunc f [Value.string s, .int .u8 c].toArray).run P w = .ok (.value (.int .i64 (wu s c))) w := by
 rw [gj g a d h he]
 rw [Lib.run_indexByteString]
 rfl
theorem NQ {f : FuncId} {fn : Func} (g : P.funcs[f]? = some fn) (c : (fn.name == "runtime.NumGoroutine") = false) (d : fn.body.isNone = true) (h : Extern.findNext fn = none) (he : Extern.find fn = some Extern.BytealgCompare.compare) (a b : ByteArray) (w : World) :
  (callFunc f [Value.string a, .string b].toArray).run P w = .ok (.value (.int .i64 (nJ a b))) w := by
 rw [gj g c d h he]
 rw [Lib.run_compareString]
 rfl
theorem CY {v : Value} {l : List Int} (h : Sl (Pl (jN .u8)) 1 (hp W) v l) : (Extern.Bytes.bytesOf v).run P W = .ok ⟨(wA l).toArray⟩ W := by
 obtain ⟨A, c, rfl, o, p, i⟩ := h
 rcases cF l.length with a | a
 ·have : l = [] := cD.1 a
  subst this
  cases A <;> simp [Extern.Bytes.bytesOf, Extern.Bytes.loadBytes, wA] <;> rfl
 ·obtain ⟨b, off, cs, T, fr, rfl, k, m⟩ := i a
  have := Lib.run_loadBytesX (P := P) W l ⟨b, off, none⟩ .empty (fun j x n => by
   obtain ⟨ys, _, g, d⟩ := m j x n
   cases g
   rw [bZ, ec W b (off + j) cs T fr k]
   have := d 0 (.int .u8 x) rfl
   simpa using this)
  simp only [Extern.Bytes.bytesOf]
  rw [this]
  congr 1
  apply gV
  show (#[] : Array UInt8) ++ _ = _
  simp [Lib.bytesOf, wA]
theorem OF {f : FuncId} {fn : Func} (j : P.funcs[f]? = some fn) (c : (fn.name == "runtime.NumGoroutine") = false) (i : fn.body.isNone = true) (k : Extern.findNext fn = none) (he : Extern.find fn = some Extern.BytealgCompare.compare) {d g : Value} {a b : List Int} (h1 : Sl (Pl (jN .u8)) 1 (hp W) d a) (h : Sl (Pl (jN .u8)) 1 (hp W) g b) :
  (callFunc f [d, g].toArray).run P W = .ok (.value (.int .i64 (xn a b))) W := by
 rw [gj j c i k he]
 have : (Extern.BytealgCompare.compare [d, g].toArray).run P W = .ok (.int .i64 (xn a b)) W := by
  change Sem.run P (do pure (goInt (Extern.BytealgCompare.cmp (← Extern.Bytes.bytesOf d) (← Extern.Bytes.bytesOf g)))) W = _
  simp only [aZ, CY h1, CY h, bP, Result.andThen]
  rw [Lib.cmp_eq]
  rfl
 rw [this]
 rfl
theorem si {fn : Fn} {caps : Array Operand} {cs : List Value} {v : Value} (a : caps.map (iZ E) ++ (#[] : Array Value) = cs.toArray) (c : .func fn #[] cs.toArray = v) : kq P E ⟨d, .makeFunc fn #[] caps, ty, pos, af, g⟩ W v W := by
 have : caps.map (iZ E) = cs.toArray := by simpa using a
 exact Lv (by rw [this]; simpa using c)
theorem jY.mono {f : FuncId} {args : List Value} {L0 : List (Nat × Obj)} {K K' : Value → List (Nat × Obj) → World → Prop} (h : jY dd P f args w L0 K) (hk : ∀ v L1 W', K v L1 W' → K' v L1 W') : jY dd P f args w L0 K' :=
 bp h (fun _ _ ⟨v, L1, h1, a, c⟩ => ⟨v, L1, h1, a, hk _ _ _ c⟩)
end
section
variable {α : Type}
def rj (cf : α × α → Option Int) (x y : α) : Bool := match cf (x, y) with
 | some c => decide (c < 0)
 | none => false
structure DF (cf : α × α → Option Int) (l : List α) : Prop where
 is : ∀ x ∈ l, ∀ y ∈ l, ∃ c, cf (x, y) = some c
 irrefl : ∀ x ∈ l, rj cf x x = false
 trans : ∀ x ∈ l, ∀ y ∈ l, ∀ z ∈ l, rj cf x y = true → rj cf y z = true → rj cf x z = true
 total : ∀ x ∈ l, ∀ y ∈ l, rj cf x y = false → rj cf y x = false → x = y
 short : l.length < 4611686018427387904
def ol (cf : α × α → Option Int) (l : List α) : List α := l.mergeSort fun x y => !rj cf y x
open Classical in
noncomputable def wg (cf : α × α → Option Int) (l : List α) : Option (List α) := if DF cf l then some (ol cf l) else none
theorem zG {cf : α × α → Option Int} {l r : List α} (h : wg cf l = some r) : DF cf l ∧ r = ol cf l := by
 unfold wg at h
 split at h
 ·rename_i a; cases h; exact ⟨a, rfl⟩
 ·cases h
theorem JM {cf : α × α → Option Int} {l : List α} (h : DF cf l) : wg cf l = some (ol cf l) := by
 unfold wg; rw [aq h]
def mL (l : List ByteArray) : List ByteArray := l.mergeSort fun x y => !nX y x
def Ek (l : List ByteArray) : Option (List ByteArray) := if l.length < 4611686018427387904 then some (mL l) else none
end
end Go.Proofs.YtbnbdigcbldfhaaGreat
namespace Go.Proofs.YtbnbdigcbldfhaaGreat
open Go.RowKit
variable {dd : Bool}
def vL {κ γ : Type} (Q : Value → γ → List (Nat × Obj) → Prop) : List (κ × Value) → List (κ × γ) → List (Nat × Obj) → Prop
 | [], [], R => R = []
 | p :: a, q :: l, R => p.1 = q.1 ∧ ∃ R1 R2, R = R1 ++ R2 ∧ Q p.2 q.2 R1 ∧ vL Q a l R2
 | _, _, _ => False
def ll {κ γ : Type} (kenc : κ → Value) (Q : Value → γ → List (Nat × Obj) → Prop) (v : Value) (d : List (κ × Value)) (l : List (κ × γ)) (R : List (Nat × Obj)) : Prop :=
 ∃ a c, R = a ++ c ∧ kl kenc (fun x => x) v d a ∧ vL Q d l c
section
variable {κ γ : Type} {Q : Value → γ → List (Nat × Obj) → Prop} {beq : κ → κ → Bool} {kenc : κ → Value}
theorem vL.keys : ∀ {a : List (κ × Value)} {l : List (κ × γ)} {R : List (Nat × Obj)}, vL Q a l R → a.map (·.1) = l.map (·.1)
 | [], [], _, _ => rfl
 | [], _ :: _, _, h => h.elim
 | _ :: _, [], _, h => h.elim
 | p :: a, q :: l, R, h => by
  obtain ⟨h1, R1, R2, _, _, c⟩ := h
  simp [h1, vL.keys c]
theorem vL.find {a : List (κ × Value)} {l : List (κ × γ)} {R : List (Nat × Obj)} (h : vL Q a l R) (k : κ) : a.findIdx? (fun p => beq k p.1) = l.findIdx? (fun p => beq k p.1) := by
 have h1 : (a.map (·.1)).findIdx? (fun x => beq k x) = (l.map (·.1)).findIdx? (fun x => beq k x) := by rw [h.keys]
 rw [fc, fc] at h1
 exact h1
theorem vL.get : ∀ {c : List (κ × Value)} {l : List (κ × γ)} {R : List (Nat × Obj)}, vL Q c l R → ∀ (i : Nat) (k : κ) (x : γ), l[i]? = some (k, x) →
  ∃ v A R1 B, c[i]? = some (k, v) ∧ R = A ++ (R1 ++ B) ∧ Q v x R1 ∧ ∀ k2 v2 x2 R2, Q v2 x2 R2 → vL Q (c.set i (k2, v2)) (l.set i (k2, x2)) (A ++ (R2 ++ B))
 | [], [], _, _, i, k, x, a => by simp at a
 | [], _ :: _, _, h, _, _, _, _ => h.elim
 | _ :: _, [], _, h, _, _, _, _ => h.elim
 | p :: c, q :: l, R, h, 0, k, x, a => by
  obtain ⟨h1, R1, R2, rfl, d, g⟩ := h
  simp at a
  subst a
  refine ⟨p.2, [], R1, R2, by simp only [eW]; exact aw some (Prod.ext h1 rfl), rfl, d, fun k2 v2 x2 R2' j => ⟨rfl, R2', R2, rfl, j, g⟩⟩
 | p :: c, q :: l, R, h, i + 1, k, x, a => by
  obtain ⟨h1, R1, R2, rfl, d, g⟩ := h
  simp at a
  obtain ⟨v, A, R1', B, g1, rfl, g3, g4⟩ := vL.get g i k x a
  exact ⟨v, R1 ++ A, R1', B, by simpa using g1, by simp, g3, fun k2 v2 x2 R2' j => ⟨h1, R1, A ++ (R2' ++ B), by simp, d, g4 k2 v2 x2 R2' j⟩⟩
theorem vL.push : ∀ {c : List (κ × Value)} {l : List (κ × γ)} {R : List (Nat × Obj)}, vL Q c l R → ∀ (k : κ) {v : Value} {x : γ} {R1 : List (Nat × Obj)}, Q v x R1 → vL Q (c ++ [(k, v)]) (l ++ [(k, x)]) (R ++ R1)
 | [], [], _, h, k, v, x, R1, a => by
  have i : _ = [] := h
  subst i
  exact ⟨rfl, R1, [], by simp, a, rfl⟩
 | [], _ :: _, _, h, _, _, _, _, _ => h.elim
 | _ :: _, [], _, h, _, _, _, _, _ => h.elim
 | p :: c, q :: l, R, h, k, v, x, R1, a => by
  obtain ⟨h1, d, g, rfl, j, m⟩ := h
  exact ⟨h1, d, g ++ R1, by simp, j, vL.push m k a⟩
theorem ll.found {t : Value} {d : List (κ × Value)} {l : List (κ × γ)} {R : List (Nat × Obj)} (hk : ∀ {x y : κ}, beq x y = true → x = y) (h : ll kenc Q t d l R) {k : κ} {x : γ} (c : ki beq l k = some x) :
  ∃ v A R1 B, ki beq d k = some v ∧ R = A ++ (R1 ++ B) ∧ Q v x R1 ∧ (∀ x2 R2, Q v x2 R2 → ll kenc Q t d (lZ beq l k x2) (A ++ (R2 ++ B))) := by
 obtain ⟨q, D, rfl, u, s⟩ := h
 rw [xe] at c
 cases g : l.findIdx? (fun p => beq k p.1) with
 | none => rw [g] at c; cases c
 | some i =>
  rw [g] at c
  obtain ⟨p, hp, w⟩ := qR g
  simp only [aa, hp, cw, fe] at c
  subst c
  have o := hk w
  obtain ⟨v, A, R1, B, g1, rfl, g3, g4⟩ := s.get i p.1 p.2 hp
  have m : d.findIdx? (fun p => beq k p.1) = some i := by rw [s.find k, g]
  refine ⟨v, q ++ A, R1, B, by rw [xe, m]; simp [g1], by simp, g3, fun x2 R2 z => ⟨q, A ++ (R2 ++ B), by simp, u, ?_⟩⟩
  have a := g4 k v x2 R2 z
  have e : d.set i (k, v) = d := by
   apply cC
   intro j
   rw [dw]
   split
   ·rename_i n
    subst n
    rw [g1, o]
    simp [(aF.1 g1).1]
   ·rfl
  rw [e] at a
  rw [lZ, g]
  exact a
theorem ll.LH {j : Value} {d : List (κ × Value)} {l : List (κ × γ)} {R : List (Nat × Obj)} (h : ll kenc Q j d l R) {k : κ} (a : ki beq l k = none) : ki beq d k = none := by
 obtain ⟨m, n, rfl, o, g⟩ := h
 rw [xe] at a ⊢
 rw [g.find k]
 cases c : l.findIdx? (fun p => beq k p.1) with
 | none => rfl
 | some i =>
  rw [c] at a
  obtain ⟨p, hp, q⟩ := qR c
  simp [hp] at a
def qk (beq : κ → κ → Bool) (a : List (κ × Value)) (k : κ) (z : Value) : Value := (ki beq a k).getD z
variable {P : Program} {W : World} {kt : TypeId} {E : Nat → Value} {d : Option Nat} {ty : TypeId} {pos : String} {af : Array Edge} {g : Option (Nat × Bool)} {F : Nat → Prop} {w : World} {μ : jw} {L : List (Nat × Obj)}
theorem nG {t e : TypeId} {m x : Operand} {c z : Value} {a : List (κ × Value)} {l : List (κ × γ)} {R : List (Nat × Obj)} {k : κ} (K : ni P kt kenc beq) (q : P.underlying t = some (.map kt e)) (u : ∀ w, (zeroValue e).run P w = .ok z w) (hm : iZ E m = c) (s : iZ E x = kenc k) (n : ll kenc Q c a l R) (p : ∀ b o, (b, o) ∈ R → W.heap[b]? = some o) : kq P E ⟨d, .lookup t m x false, ty, pos, af, g⟩ W (qk beq a k z) W := by
 obtain ⟨v, y, rfl, i, A⟩ := n
 have j := Iu (d := d) (ty := ty) (pos := pos) (af := af) (g := g) K q u hm s (i.at (μ := hp W) (fun b o h => p b o (aW _ h)))
 simpa [qk] using j
variable {κ2 β : Type} {kenc2 : κ2 → Value} {vf : β → Value} {beq2 : κ2 → κ2 → Bool} {kt2 : TypeId}
theorem ll.Cq {i : Value} {c : List (κ × Value)} {l : List (κ × List (κ2 × β))} {R : List (Nat × Obj)} (hk : ∀ {x y : κ}, beq x y = true → x = y) (h : ll kenc (kl kenc2 vf) i c l R) (k : κ) {μ : jw} (d : ∀ b o, (b, o) ∈ R → μ b = some o) :
  tX kenc2 vf μ (qk beq c k (.map none)) ((ki beq l k).getD []) := by
 cases a : ki beq l k with
 | none => rw [qk, h.LH a]; exact .inl ⟨rfl, rfl⟩
 | some x =>
  obtain ⟨v, A, R1, B, g1, rfl, g3, _⟩ := h.found hk a
  rw [qk, g1]
  exact g3.at (fun b o g => d b o (by simp [g]))
theorem ll.isNil {d : Value} {c : List (κ × Value)} {l : List (κ × List (κ2 × β))} {R : List (Nat × Obj)} (hk : ∀ {x y : κ}, beq x y = true → x = y) (h : ll kenc (kl kenc2 vf) d c l R) (k : κ) :
  ∃ r, qk beq c k (.map none) = .map r ∧ r.isNone = (ki beq l k).isNone := by
 cases a : ki beq l k with
 | none => rw [qk, h.LH a]; exact ⟨none, rfl, rfl⟩
 | some x =>
  obtain ⟨v, A, R1, B, g1, rfl, g3, _⟩ := h.found hk a
  obtain ⟨m, es, clock, rfl, _⟩ := g3
  rw [qk, g1]
  exact ⟨_, rfl, rfl⟩
def E2 {κ κ2 β : Type} (beq : κ → κ → Bool) (beq2 : κ2 → κ2 → Bool) (l : List (κ × List (κ2 × β))) (k : κ) (k2 : κ2) (x : β) : Option (List (κ × List (κ2 × β))) := (ki beq l k).map fun a => lZ beq l k (lZ beq2 a k2 x)
def Fu {κ γ : Type} (beq : κ → κ → Bool) (l : List (κ × γ)) (k : κ) (x : γ) : Option (List (κ × γ)) := if (ki beq l k).isNone then some (lZ beq l k x) else none
theorem NH {p : Value → World → Prop} (X : List (Nat × Obj)) {Y R : List (Nat × Obj)} {t e : TypeId} {m x y : Operand} {s : Value} {o : List (κ × Value)} {l q : List (κ × List (κ2 × β))} {k : κ} {k2 : κ2} {v : β} (hk : ∀ {x y : κ}, beq x y = true → x = y) (K : ni P kt2 kenc2 beq2) (G : P.underlying t = some (.map kt2 e)) (i : ST dd F w W μ (X ++ (R ++ Y))) (h : ll kenc (kl kenc2 vf) s o l R) (hm : iZ E m = qk beq o k (.map none)) (I : iZ E x = kenc2 k2) (J : iZ E y = vf v) (c : E2 beq beq2 l k k2 v = some q) (D : ∀ W' R', ST dd F w W' μ (X ++ (R' ++ Y)) → ll kenc (kl kenc2 vf) s o q R' → p undef W') : lD P E ⟨d, .mapUpdate t m x y, ty, pos, af, g⟩ W p := by
 unfold E2 at c
 cases j : ki beq l k with
 | none => rw [j] at c; cases c
 | some L =>
  rw [j] at c
  cases c
  obtain ⟨u, A, R1, B, g1, rfl, g3, g4⟩ := h.found hk j
  have n : iZ E m = u := by rw [hm, qk, g1]; rfl
  have a : ST dd F w W μ ((X ++ A) ++ (R1 ++ (B ++ Y))) := by simpa using i
  refine yy (X ++ A) K G a g3 n I J (fun W' R' h1 z => D W' (A ++ (R' ++ B)) ?_ (g4 _ _ z))
  simpa using h1
theorem MH {D : Value → World → Prop} (X : List (Nat × Obj)) {Y R R2 : List (Nat × Obj)} {t e : TypeId} {m x y : Operand} {A : Value} {v : List (κ × Value)} {l J : List (κ × γ)} {k : κ} {u : Value} {z : γ} (K : ni P kt kenc beq) (ht : P.underlying t = some (.map kt e)) (s : ST dd F w W μ (X ++ (R ++ (R2 ++ Y)))) (h : ll kenc Q A v l R) (hm : iZ E m = A) (hx : iZ E x = kenc k) (hy : iZ E y = u) (hq : Q u z R2) (c : Fu beq l k z = some J) (Z : ∀ W' R', ST dd F w W' μ (X ++ (R' ++ Y)) → ll kenc Q A (lZ beq v k u) J R' → D undef W') : lD P E ⟨d, .mapUpdate t m x y, ty, pos, af, g⟩ W D := by
 unfold Fu at c
 cases n : ki beq l k with
 | some l2 => rw [n] at c; cases c
 | none =>
  rw [n] at c
  simp only [Option.isNone_none, aK, fe] at c
  subst c
  have hn := h.LH n
  obtain ⟨M, o, rfl, T, U⟩ := h
  have j : ST dd F w W μ (X ++ (M ++ (o ++ (R2 ++ Y)))) := by simpa using s
  refine yy X K ht j T hm hx hy (fun W' R' g1 g2 => Z W' (R' ++ (o ++ R2)) (by simpa using g1) ⟨R', o ++ R2, rfl, g2, ?_⟩)
  have G : ∀ {L : Type} (q : List (κ × L)) (y : L), ki beq q k = none → lZ beq q k y = q ++ [(k, y)] := fun q y a => by
   rw [xe] at a
   rw [lZ]
   cases I : q.findIdx? (fun p => beq k p.1) with
   | none => rfl
   | some i =>
    obtain ⟨p, hp, _⟩ := qR I
    rw [I] at a
    simp [hp] at a
  rw [G v u hn, G l z n]
  exact U.push k hq
end
end Go.Proofs.YtbnbdigcbldfhaaGreat
namespace Go.Proofs.YtbnbdigcbldfhaaGreat
open Go.RowKit
variable {dd : Bool}
section
variable {κ γ : Type} {Q : Value → γ → List (Nat × Obj) → Prop} {beq : κ → κ → Bool} {kenc : κ → Value}
theorem pL {a : Type} {l : List (κ × a)} {k : κ} {i : Nat} (h : l.findIdx? (fun p => beq k p.1) = some i) (x : a) : lZ beq l k x = l.set i (k, x) := by rw [lZ, h]
theorem uv {a : Type} {l : List (κ × a)} {k : κ} (h : l.findIdx? (fun p => beq k p.1) = none) (x : a) : lZ beq l k x = l ++ [(k, x)] := by rw [lZ, h]
theorem Dt {a : Type} {l : List (κ × a)} {k : κ} (h : l.findIdx? (fun p => beq k p.1) = none) : ki beq l k = none := by rw [xe, h]; rfl
theorem Cp {a : Type} {l : List (κ × a)} {k : κ} {i : Nat} {p : κ × a} (h : l.findIdx? (fun p => beq k p.1) = some i) (hp : l[i]? = some p) : ki beq l k = some p.2 := by rw [xe, h]; simp [hp]
def Mi (beq : κ → κ → Bool) (kenc : κ → Value) (Q : Value → γ → List (Nat × Obj) → Prop) (d : Value) (c : List (κ × Value)) (l : List (κ × γ)) (k : κ) (R : List (Nat × Obj)) : Prop :=
 ∃ a A B, R = a ++ (A ++ B) ∧ kl kenc (fun x => x) d c a ∧ ∀ v x R1, Q v x R1 → vL Q (lZ beq c k v) (lZ beq l k x) (A ++ (R1 ++ B))
theorem ll.open (hk : ∀ {x y : κ}, beq x y = true → x = y) {s z : Value} {x0 : γ} (m : Q z x0 []) {n : List (κ × Value)} {l : List (κ × γ)} {R : List (Nat × Obj)} (h : ll kenc Q s n l R) (k : κ) :
  ∃ R' R1, R.Perm (R' ++ R1) ∧ Q (qk beq n k z) ((ki beq l k).getD x0) R1 ∧ Mi beq kenc Q s n l k R' := by
 obtain ⟨d, o, rfl, q, g⟩ := h
 have c := g.find (beq := beq) k
 cases a : l.findIdx? (fun p => beq k p.1) with
 | none =>
  rw [a] at c
  refine ⟨d ++ o, [], by simp, ?_, d, o, [], by simp, q, fun v x R1 j => ?_⟩
  ·rw [qk, Dt a, Dt c]; exact m
  ·rw [uv a, uv c]; simpa using g.push k j
 | some i =>
  rw [a] at c
  obtain ⟨p, hp, t⟩ := qR a
  have u := hk t
  obtain ⟨v, A, R1, B, g1, rfl, g3, g4⟩ := g.get i p.1 p.2 hp
  refine ⟨d ++ (A ++ B), R1, ?_, ?_, d, A, B, rfl, q, fun v2 x2 R2 j => ?_⟩
  ·rw [aB, aB]
   refine bK _ (bK _ cJ)
  ·rw [qk, Cp a hp, Cp c g1]; exact g3
  ·rw [pL a, pL c]; exact g4 k v2 x2 R2 j
variable {P : Program} {W : World} {kt : TypeId} {E : Nat → Value} {d : Option Nat} {ty : TypeId} {pos : String} {af : Array Edge} {g : Option (Nat × Bool)} {F : Nat → Prop} {w : World} {μ : jw} {L : List (Nat × Obj)}
theorem Rq {j : Value → World → Prop} (X : List (Nat × Obj)) {Y R R1 : List (Nat × Obj)} {t e : TypeId} {m x y : Operand} {i : Value} {n : List (κ × Value)} {l : List (κ × γ)} {k : κ} {u : Value} {z : γ} (K : ni P kt kenc beq) (D : P.underlying t = some (.map kt e)) (c : ST dd F w W μ (X ++ (R ++ (R1 ++ Y)))) (h : Mi beq kenc Q i n l k R) (hm : iZ E m = i) (G : iZ E x = kenc k) (I : iZ E y = u) (v : Q u z R1) (s : ∀ W' R', ST dd F w W' μ (X ++ (R' ++ Y)) → ll kenc Q i (lZ beq n k u) (lZ beq l k z) R' → j undef W') : lD P E ⟨d, .mapUpdate t m x y, ty, pos, af, g⟩ W j := by
 obtain ⟨o, A, B, rfl, p, q⟩ := h
 have a : ST dd F w W μ (X ++ (o ++ (A ++ (B ++ (R1 ++ Y))))) := by simpa using c
 refine yy X K D a p hm G I (fun W' R' g1 g2 => s W' (R' ++ (A ++ (R1 ++ B))) ?_ ⟨R', A ++ (R1 ++ B), rfl, g2, q u z R1 v⟩)
 refine g1.perm ?_
 simp only [aB]
 refine bK _ (bK _ (bK _ ?_))
 rw [← aB, ← aB]
 exact fg _ cJ
def Ie (beq : κ → κ → Bool) (kenc : κ → Value) (Q : Value → γ → List (Nat × Obj) → Prop) (c : Value) (l : List (κ × γ)) (k : κ) (st : Nat) (R : List (Nat × Obj)) : Prop :=
 ∃ m es clock a A B i e, c = .map (some m) ∧ R = (m, .map es clock) :: (A ++ B) ∧ tV kenc (fun x => x) a es clock ∧ es[i]? = some e ∧ e.born = st ∧ a.findIdx? (fun p => beq k p.1) = some i ∧
  ∀ v x R1, Q v x R1 → vL Q (lZ beq a k v) (lZ beq l k x) (A ++ (R1 ++ B))
theorem G8 {g : Type} (hk : ∀ x : κ, beq x x = true) (d : List (κ × g)) (k : κ) (a b : g) : lZ beq (lZ beq d k a) k b = lZ beq d k b := by
 cases c : d.findIdx? (fun p => beq k p.1) with
 | none =>
  have h1 : (d ++ [(k, a)]).findIdx? (fun p => beq k p.1) = some d.length := by
   rw [fZ, c]
   simp [dp, hk]
  rw [uv c, uv c, pL h1]
  simp
 | some i =>
  obtain ⟨p, hp, o⟩ := qR c
  have h1 : (d.set i (k, a)).findIdx? (fun p => beq k p.1) = some i := by
   rw [cN] at c ⊢
   obtain ⟨h1, n, h⟩ := c
   refine ⟨by simpa using h1, by simp [hk], fun j m => ?_⟩
   rw [List.getElem_set_ne (by omega)]
   exact h j m
  rw [pL c, pL c, pL h1]
  simp
end
end Go.Proofs.YtbnbdigcbldfhaaGreat
namespace Go.Proofs.YtbnbdigcbldfhaaGreat
open Go.RowKit
variable {dd : Bool}
section
variable {κ γ : Type} {Q : Value → γ → List (Nat × Obj) → Prop} {beq : κ → κ → Bool} {kenc : κ → Value}
variable {P : Program} {W : World} {kt : TypeId} {E : Nat → Value} {d : Option Nat} {ty : TypeId} {pos : String} {af : Array Edge} {g : Option (Nat × Bool)} {F : Nat → Prop} {w : World} {μ : jw} {L : List (Nat × Obj)}
theorem Dw {es : Array MapEntry} {i : Nat} {f c : MapEntry → MapEntry} (h : ∀ e, es[i]? = some e → f e = c e) : es.modify i f = es.modify i c := by
 apply Array.ext_getElem?
 intro j
 rw [cI, cI]
 split
 ·rename_i a
  subst a
  cases he : es[i]? with
  | none => rfl
  | some e => simp [h e he]
 ·rfl
theorem tV.val {c : List (κ × Value)} {es : Array MapEntry} {clock : Nat} (h : tV kenc (fun x => x) c es clock) {i : Nat} {e : MapEntry} (he : es[i]? = some e) : ∃ p, c[i]? = some p ∧ e.key = kenc p.1 ∧ e.val = p.2 := by
 have a := aw (fun q => q[i]?) h.Et
 simp only [ck, bR, he, cw] at a
 cases hp : c[i]? with
 | none => rw [hp] at a; cases a
 | some p =>
  rw [hp] at a
  simp only [cw, fe, Prod.mk.injEq] at a
  exact ⟨p, rfl, a.1, a.2⟩
theorem LY {Kk : Value → World → Prop} (X : List (Nat × Obj)) {Y R : List (Nat × Obj)} {t e : TypeId} {m x : Operand} {mv z : Value} {x0 : γ} {lv : List (κ × Value)} {l : List (κ × γ)} {k : κ} (hk : ∀ {x y : κ}, beq x y = true ↔ x = y) (K : ni P kt kenc beq) (ht : P.underlying t = some (.map kt e)) (hz : ∀ w, (zeroValue e).run P w = .ok z w) (av : Q z x0 []) (U : ST dd F w W μ (X ++ (R ++ Y))) (h : ll kenc Q mv lv l R) (hm : iZ E m = mv) (hx : iZ E x = kenc k) (hK : ∀ W' v st R' R1, ST dd F w W' μ (X ++ (R' ++ (R1 ++ Y))) → Q v ((ki beq l k).getD x0) R1 → Ie beq kenc Q mv l k st R' → Kk (.tuple #[v, .int .i64 (st : Nat)]) W') : lD P E ⟨d, .mapEntry t m x, ty, pos, af, g⟩ W Kk := by
 obtain ⟨Rm, Rv, rfl, ⟨o, es, clock, rfl, rfl, s⟩, T⟩ := h
 have hb : W.heap[o]? = some (.map es clock) := (U.box o (.map es clock) (by simp)).1
 have h5 : (getObj o : Sem Obj).run P W = .ok (.map es clock) W := by simp [getObj, Sem.run, hb]
 have L := K.find k _ _ s.keys W
 rw [s.get k] at L
 have G := T.find (beq := beq) k
 have D : ∀ W' v, (Instr.mapEntry t (.map (some o)) (kenc k)).run P W = .ok v W' → (execOp (iZ E) ⟨d, .mapEntry t m x, ty, pos, af, g⟩).run P W = .ok (.value v) W' := by
  intro W' v hr
  show (do pure (.value (← Instr.mapEntry t (iZ E m) (iZ E x))) : Sem Next).run P W = _
  rw [hm, hx]
  simp [hr]
 have u : ST dd F w W μ (X ++ (o, .map es clock) :: (Rv ++ Y)) := by simpa using U
 cases c : lv.findIdx? (fun p => beq k p.1) with
 | none =>
  rw [c] at L G
  have a := s.put (beq := beq) k z
  rw [c] at a
  refine .inl ⟨_, ChangeMaps.setBlock W o (.map (es.push { key := kenc k, val := z, born := clock }) (clock + 1)), D _ (.tuple #[z, .int .i64 (clock : Nat)]) ?_, hK _ z clock ((o, .map (es.push { key := kenc k, val := z, born := clock }) (clock + 1)) :: (Rv ++ [])) [] ?_ ?_ ?_⟩
  ·simp [Instr.mapEntry, ar ht, h5, K.check, L, xv hb, hz _, goInt]
  ·have := u.setBlock (.map (es.push { key := kenc k, val := z, born := clock }) (clock + 1))
   simpa using this
  ·rw [Dt G.symm]; exact av
  ·refine ⟨o, _, _, lv ++ [(k, z)], Rv, [], es.size, { key := kenc k, val := z, born := clock }, rfl, rfl, a, by simp, rfl, ?_, fun v x R1 hq => ?_⟩
   ·rw [fZ, c]
    have ad := s.length
    simp [dp, hk, ad]
   ·rw [← uv c, G8 (fun x => hk.2 rfl), uv c, uv G.symm]
    simpa using T.push k hq
 | some i =>
  rw [c] at L G
  obtain ⟨p, hp, ao⟩ := qR c
  obtain ⟨q, ab, Z⟩ := qR G.symm
  have b0 := hk.1 Z
  obtain ⟨v, A, R1, B, g1, rfl, g3, g4⟩ := T.get i q.1 q.2 ab
  have a8 : p.2 = v := by rw [g1] at hp; cases hp; rfl
  have ad := s.length
  have aE : i < lv.length := (aF.1 hp).1
  obtain ⟨M, n⟩ : ∃ M, es[i]? = some M := ⟨es[i], dt (by omega)⟩
  obtain ⟨p', a7, I, J⟩ := s.val n
  rw [hp] at a7
  cases a7
  simp only [aa, hp, cw] at L
  have a := s.put (beq := beq) k v
  rw [c] at a
  have a1 : ((es[i]?).map (·.key)).getD (kenc k) = kenc k := by
   rw [n]
   simp only [cw, fL, I]
   exact K.eq k p.1 ao
  have a6 : es.modify i (fun e => { e with key := kenc k }) = es.modify i (fun e => { e with key := kenc k, val := v }) := Dw fun e he => by
   rw [n] at he; cases he
   rw [← a8, ← J]
  refine .inl ⟨_, ChangeMaps.setBlock W o (.map (es.modify i fun e => { e with key := kenc k, val := v }) clock), D _ (.tuple #[v, .int .i64 (M.born : Nat)]) ?_, hK _ v M.born ((o, .map (es.modify i fun e => { e with key := kenc k, val := v }) clock) :: (A ++ B)) R1 ?_ ?_ ?_⟩
  ·simp only [Instr.mapEntry, aZ, ar ht, h5, K.check, L, aN, a1, Instr.keyThatStays, K.bits, aK, bP]
   rw [xv hb, a6]
   simp [n, goInt, a8]
  ·have := u.setBlock (.map (es.modify i fun e => { e with key := kenc k, val := v }) clock)
   refine this.perm ?_
   simp only [aB, bE]
   refine bK _ (List.Perm.cons _ (bK _ ?_))
   rw [← aB, ← aB]
   exact fg _ cJ
  ·rw [Cp G.symm ab]; exact g3
  ·refine ⟨o, _, _, lv.set i (k, v), A, B, i, { M with key := kenc k, val := v }, rfl, rfl, a, ?_, rfl, ?_, fun v2 x2 R2 hq => ?_⟩
   ·rw [cI, aq rfl, n]; rfl
   ·rw [cN] at c ⊢
    obtain ⟨h1, s, T⟩ := c
    refine ⟨by simpa using h1, by simp [hk], fun j hj => ?_⟩
    rw [List.getElem_set_ne (by omega)]
    exact T j hj
   ·rw [← pL c, G8 (fun x => hk.2 rfl), pL c, pL G.symm]
    exact g4 k v2 x2 R2 hq
theorem Nf {es : Array MapEntry} (h : es.toList.Pairwise (fun a b => a.born < b.born)) {i : Nat} {e : MapEntry} (he : es[i]? = some e) : es.findIdx? (fun a => (a.born : Int) == (e.born : Int)) = some i := by
 rw [Array.findIdx?_eq_some_iff_getElem]
 obtain ⟨d, c⟩ := bD.1 he
 refine ⟨d, by rw [c]; simp, fun j g => ?_⟩
 have := List.pairwise_iff_getElem.1 h j i (by simpa using Nat.lt_trans g d) (by simpa using d) g
 simp only [Array.getElem_toList] at this
 rw [c] at this
 simp
 omega
theorem JJ {Kk : Value → World → Prop} (X : List (Nat × Obj)) {Y R R1 : List (Nat × Obj)} {t e : TypeId} {m s y : Operand} {mv u : Value} {z : γ} {l : List (κ × γ)} {k : κ} {st : Nat} (hk : ∀ {x y : κ}, beq x y = true ↔ x = y) (K : ni P kt kenc beq) (q : ST dd F w W μ (X ++ (R ++ (R1 ++ Y)))) (h : Ie beq kenc Q mv l k st R) (hm : iZ E m = mv) (hs : iZ E s = .int .i64 (st : Nat)) (hy : iZ E y = u) (hq : Q u z R1) (hK : ∀ W' Z R', ST dd F w W' μ (X ++ (R' ++ Y)) → ll kenc Q mv Z (lZ beq l k z) R' → Kk undef W') : lD P E ⟨d, .entryStore t m s y, ty, pos, af, g⟩ W Kk := by
 obtain ⟨c, es, clock, lv, A, B, i, en, rfl, rfl, L, n, j, T, h3⟩ := h
 have hb : W.heap[c]? = some (.map es clock) := (q.box c (.map es clock) (by simp)).1
 have h5 : (getObj c : Sem Obj).run P W = .ok (.map es clock) W := by simp [getObj, Sem.run, hb]
 obtain ⟨p, hp, M⟩ := qR T
 obtain ⟨p', J, o, U⟩ := L.val n
 rw [hp] at J
 cases J
 have a := L.put (beq := beq) k u
 rw [T] at a
 have I : es.modify i (fun e => { e with val := u }) = es.modify i (fun e => { e with key := kenc k, val := u }) := Dw fun e he => by
  rw [n] at he; cases he
  have D : en.key = kenc k := by rw [o]; exact K.eq k p.1 M
  rw [← D]
 have G := Nf L.born n
 rw [j] at G
 have v : ST dd F w W μ (X ++ (c, .map es clock) :: (A ++ (B ++ (R1 ++ Y)))) := by simpa using q
 refine .inr (.inl ⟨ChangeMaps.setBlock W c (.map (es.modify i fun e => { e with key := kenc k, val := u }) clock), ?_, hK _ (lZ beq lv k u) ((c, .map (es.modify i fun e => { e with key := kenc k, val := u }) clock) :: (A ++ (R1 ++ B))) ?_ ⟨[(c, .map (es.modify i fun e => { e with key := kenc k, val := u }) clock)], A ++ (R1 ++ B), rfl, ⟨c, _, _, rfl, rfl, ?_⟩, h3 u z R1 hq⟩⟩)
 ·show (do Instr.entryStore t (iZ E m) (iZ E s) (iZ E y); pure .skip : Sem Next).run P W = _
  rw [hm, hs, hy]
  simp only [Instr.entryStore, aZ, h5, aN, asInt, asIntOf, bP, G]
  rw [xv hb, I]
  rfl
 ·have := v.setBlock (.map (es.modify i fun e => { e with key := kenc k, val := u }) clock)
  refine this.perm ?_
  simp only [aB, bE]
  refine bK _ (List.Perm.cons _ (bK _ ?_))
  rw [← aB, ← aB]
  exact fg _ cJ
 ·rw [pL T]; exact a
end
end Go.Proofs.YtbnbdigcbldfhaaGreat
namespace Go.Proofs.YtbnbdigcbldfhaaGreat
open Go.RowKit
variable {dd : Bool}
section
variable {κ γ : Type} {Q : Value → γ → List (Nat × Obj) → Prop} {beq : κ → κ → Bool} {kenc : κ → Value}
def kB (kenc : κ → Value) (Q : Value → γ → List (Nat × Obj) → Prop) (v : Value) (l : List (κ × γ)) (R : List (Nat × Obj)) : Prop := ∃ a, ll kenc Q v a l R
def qZ (kenc : κ → Value) (Q : Value → γ → List (Nat × Obj) → Prop) (μ : jw) (v : Value) (l : List (κ × γ)) : Prop := ∃ a R, ll kenc Q v a l R ∧ ∀ b o, (b, o) ∈ R → μ b = some o
theorem kB.at {v : Value} {l : List (κ × γ)} {R : List (Nat × Obj)} {μ : jw} (h : kB kenc Q v l R) (a : ∀ b o, (b, o) ∈ R → μ b = some o) : qZ kenc Q μ v l := let ⟨c, h⟩ := h; ⟨c, R, h, a⟩
theorem qZ.mono {v : Value} {l : List (κ × γ)} {μ μ' : jw} (h : qZ kenc Q μ v l) (d : js μ μ') : qZ kenc Q μ' v l := let ⟨g, R, h, a⟩ := h; ⟨g, R, h, fun b o c => d _ _ (a b o c)⟩
theorem ll.form {v : Value} {a : List (κ × Value)} {l : List (κ × γ)} {R : List (Nat × Obj)} (h : ll kenc Q v a l R) : ∃ m, v = .map (some m) := let ⟨_, _, _, h, _⟩ := h; h.form
theorem ll.e {v : Value} {a : List (κ × Value)} {l : List (κ × γ)} {R : List (Nat × Obj)} (h : ll kenc Q v a l R) : kB kenc Q v l R := ⟨a, h⟩
theorem kB.form {v : Value} {l : List (κ × γ)} {R : List (Nat × Obj)} (h : kB kenc Q v l R) : ∃ m, v = .map (some m) := let ⟨_, h⟩ := h; h.form
theorem kB.new {v : Value} {R : List (Nat × Obj)} (h : kl (β := Value) kenc (fun x => x) v [] R) : kB kenc Q v [] R := ⟨[], R, [], (bu R).symm, h, rfl⟩
theorem ll.rowAt {α : Type} {e : TypeId} {enc : α → List Value} {n : Nat} {g : Value} {c : List (κ × Value)} {l : List (κ × List α)} {R : List (Nat × Obj)} (hk : ∀ {x y : κ}, beq x y = true → x = y) (h : ll kenc (jl e enc n) g c l R) (k : κ) :
  ∃ R1, jl e enc n (qk beq c k (.slice none 0 0)) ((ki beq l k).getD []) R1 ∧ ∀ b o, (b, o) ∈ R1 → (b, o) ∈ R := by
 cases a : ki beq l k with
 | none => refine ⟨[], ?_, fun b o h => by cases h⟩; rw [qk, h.LH a]; exact .inl ⟨rfl, rfl, rfl⟩
 | some x =>
  obtain ⟨v, A, R1, B, g1, rfl, g3, _⟩ := h.found hk a
  refine ⟨R1, ?_, fun b o d => by simp [d]⟩
  rw [qk, g1]; exact g3
theorem jl.DJ {α : Type} {e : TypeId} {enc : α → List Value} {k : Nat} {v : Value} {l : List α} {R : List (Nat × Obj)} (h : jl e enc k v l R) (hk : ∀ x, (enc x).length = k) : Sl (Pl enc) k (Aj R) v l := by
 refine h.sl hk (fun b o a => ?_)
 rcases h with ⟨rfl, rfl, rfl⟩ | ⟨g, cap, c, rfl, rfl, _⟩
 ·cases a
 ·simp at a; obtain ⟨rfl, rfl⟩ := a; simp [Aj]
end
theorem qg.hp (W : World) : qg (hp W) [] W := ⟨fun _ _ h => h, fun _ _ h => by cases h⟩
section
variable {P : Program} {W : World} {E : Nat → Value} {d : Option Nat} {ty : TypeId} {pos : String} {af : Array Edge} {g : Option (Nat × Bool)} {F : Nat → Prop} {w : World} {μ : jw} {L : List (Nat × Obj)}
theorem Gt {t k e : TypeId} (dd : Nat) (c : P.underlying t = some (.map k e)) (a : Option Nat) (W : World) : (Op.equalIn (dd + 1) t (.map a) (.map none)).run P W = .ok a.isNone W := by
 cases a <;> simp [Op.equalIn, ar c]
theorem Mm {tx tv k e : TypeId} {x y : Operand} {r : Option Nat} {b : Bool} (h : P.underlying tx = some (.map k e)) (i : iZ E x = .map r) (j : iZ E y = .map none) (c : r.isNone = b) :
  kq P E ⟨d, .binOp .eql tx x y tv, ty, pos, af, g⟩ W (.bool b) W := by
 subst c
 show (do let r ← (do eqGuard .eql tx x y (iZ E x) (iZ E y); binOp .eql tx (iZ E x) (iZ E y)); pure (.value r) : Sem Next).run P W = _
 rw [i, j]
 have a := Gt 9999 h r W
 simp [eqGuard, binOp, Op.equal, show Op.maxDepth = 9999 + 1 from rfl, a]
theorem J8 {κ κ2 β : Type} {kenc : κ → Value} {kenc2 : κ2 → Value} {vf : β → Value} {beq : κ → κ → Bool} {tx tv kt e : TypeId} {x y : Operand} {n : Value} {a : List (κ × Value)} {l : List (κ × List (κ2 × β))} {R : List (Nat × Obj)} {k : κ} (hk : ∀ {x y : κ}, beq x y = true → x = y) (i : P.underlying tx = some (.map kt e)) (h : ll kenc (kl kenc2 vf) n a l R) (j : iZ E x = qk beq a k (.map none)) (m : iZ E y = .map none) :
  kq P E ⟨d, .binOp .eql tx x y tv, ty, pos, af, g⟩ W (.bool (ki beq l k).isNone) W := by
 obtain ⟨r, h1, c⟩ := h.isNil hk k
 exact Mm i (j.trans h1) m c
theorem Ce {κ γ : Type} {c : Value → World → Prop} {t : TypeId} (kenc : κ → Value) (Q : Value → γ → List (Nat × Obj) → Prop) (a : ST dd F w W μ L) (i : ∀ W' v R, ST dd F w W' μ (R ++ L) → kB kenc Q v [] R → c v W') : lD P E ⟨d, .makeMap t none, ty, pos, af, g⟩ W c :=
 AL kenc (fun x : Value => x) a (fun W' v R h1 h => i W' v R h1 (kB.new h))
end
def oA {α : Type} (e : TypeId) (enc : α → List Value) (k : Nat) (v : Value) (l : List α) (R : List (Nat × Obj)) : Prop :=
 (v = .slice none 0 0 ∧ l = [] ∧ R = []) ∨
 ∃ g off cap a, v = .slice (some ⟨g, off, none⟩) l.length cap ∧ R = [(g, .cells a e (0, 0))] ∧ l.length ≤ cap ∧ cap ≤ maxLen ∧ off + cap * k ≤ a.size ∧ (a.toList.drop off).take (l.length * k) = (l.map enc).flatten
section
variable {α : Type} {e : TypeId} {enc : α → List Value} {k : Nat} {v : Value} {l : List α} {R : List (Nat × Obj)}
theorem oA.nil (e : TypeId) (enc : α → List Value) (k : Nat) : oA e enc k (.slice none 0 0) [] [] := .inl ⟨rfl, rfl, rfl⟩
theorem jl.SB (h : jl e enc k v l R) : oA e enc k v l R := by
 rcases h with h | ⟨g, cap, a, h1, c, d, i, m, j⟩
 ·exact .inl h
 ·exact .inr ⟨g, 0, cap, a, h1, c, d, i, by omega, by simpa using j⟩
theorem oA.len (h : oA e enc k v l R) : l.length ≤ 9223372036854775807 := by
 rcases h with ⟨rfl, rfl, rfl⟩ | ⟨g, off, cap, a, rfl, rfl, h1, c, _⟩
 ·simp
 ·unfold maxLen at c; omega
theorem oA.form (h : oA e enc k v l R) : ∃ A c, v = .slice A l.length c := by
 rcases h with ⟨rfl, rfl, rfl⟩ | ⟨g, off, cap, a, rfl, rfl, _⟩
 ·exact ⟨_, _, rfl⟩
 ·exact ⟨_, _, rfl⟩
theorem oA.DJ (h : oA e enc k v l R) (hk : ∀ x, (enc x).length = k) : Sl (Pl enc) k (Aj R) v l := by
 rcases h with ⟨rfl, rfl, rfl⟩ | ⟨g, off, cap, a, rfl, rfl, h1, d, p, m⟩
 ·exact Sl.nil _ _ _
 ·refine ⟨_, cap, rfl, h1, d, fun _ => ⟨g, off, a, e, (0, 0), rfl, by simp [Aj], fun i x n => ⟨enc x, hk x, rfl, fun j y o => ?_⟩⟩⟩
  have := vH hk l i x n j y o
  rw [← m] at this
  have c : i * k + j < l.length * k := by
   have := (aF.1 this).1
   simp at this; omega
  rw [cy c, cq] at this
  simpa [dz] using this
variable {P : Program} {W : World} {E : Nat → Value} {d : Option Nat} {ty : TypeId} {pos : String} {af : Array Edge} {g : Option (Nat × Bool)} {F : Nat → Prop} {w : World} {μ : jw} {L : List (Nat × Obj)}
theorem OQ {x : Operand} {t a : TypeId} (i : P.underlying t = some (.slice a)) (j : iZ E x = v) (h : oA e enc k v l R) : kq P E ⟨d, .call ⟨.builtin .len, #[x], #[t]⟩, ty, pos, af, g⟩ W (.int .i64 l.length) W := by
 obtain ⟨A, c, rfl⟩ := h.form
 exact yq i j
theorem LA {t p : TypeId} {x n : Operand} {M : IntKind} {i : Int} (z : P.underlying t = some (.slice p)) (he : ∀ w, (sizeOf p).run P w = .ok k w) (A : iZ E x = v) (s : iZ E n = .int M i) (hk : ∀ x, (enc x).length = k) (h : oA e enc k v l R) (D : 0 ≤ i) (y : i ≤ l.length) :
  ∃ u, oA e enc k u (l.drop i.toNat) R ∧ ∀ W, kq P E ⟨d, .slice t x (some n) none none, ty, pos, af, g⟩ W u W := by
 rcases h with ⟨rfl, rfl, rfl⟩ | ⟨m, off, cap, c, rfl, rfl, h1, Q, T, G⟩
 ·have : i = 0 := by simp at y; omega
  subst this
  refine ⟨.slice none 0 0, by simpa using oA.nil e enc k, fun W => ?_⟩
  show (do pure (.value (← Instr.sliceAt t (iZ E x) (some (iZ E n)) none none)) : Sem Next).run P W = _
  rw [A, s]
  simp [Instr.sliceAt, Instr.slice, Instr.sliceBounds, Instr.sliceBound, asIntOf, ar z, he W]
 ·refine ⟨.slice (some (if cap = i.toNat then ⟨m, off, none⟩ else (Addr.add ⟨m, off, none⟩ (i.toNat * k)))) (l.length - i.toNat) (cap - i.toNat), .inr ?_, fun W => ?_⟩
  ·have a : (l.drop i.toNat).length = l.length - i.toNat := by simp
   have j : (l.map enc).flatten.drop (i.toNat * k) = ((l.drop i.toNat).map enc).flatten := by
    have I : l = l.take i.toNat ++ l.drop i.toNat := (dV _ _).symm
    have J : ((l.take i.toNat).map enc).flatten.length = i.toNat * k := by rw [ns hk, bA, bO (by omega)]
    conv => lhs; rw [I, bh, ez]
    rw [← J, List.drop_left]
   by_cases q : cap = i.toNat
   ·rw [aq q]
    have o : l.drop i.toNat = [] := List.drop_eq_nil_of_le (by omega)
    refine ⟨m, off, cap - i.toNat, c, by rw [o]; simp; omega, rfl, by rw [o]; simp, by omega, by have : (cap - i.toNat) * k ≤ cap * k := bd _ (by omega); omega, by rw [o]; simp⟩
   ·rw [ap q]
    refine ⟨m, off + i.toNat * k, cap - i.toNat, c, by rw [a, bZ], rfl, by rw [a]; omega, by omega, ?_, ?_⟩
    ·have : i.toNat * k + (cap - i.toNat) * k = cap * k := by rw [← bn]; congr 1; omega
     omega
    ·rw [a, ← j, ← G, eZ, List.drop_drop, Nat.sub_mul]
  ·show (do pure (.value (← Instr.sliceAt t (iZ E x) (some (iZ E n)) none none)) : Sem Next).run P W = _
   rw [A, s]
   have L : 0 ≤ i ∧ i ≤ (l.length : Int) := ⟨D, y⟩
   simp [Instr.sliceAt, Instr.slice, Instr.sliceBounds, Instr.sliceBound, asIntOf, ar z, he W, L]
   split <;> rfl
theorem Ka {K : Value → World → Prop} {t : TypeId} {a6 : Nat} {z vs : Value} {m r : List α} (X : List (Nat × Obj)) {Y : List (Nat × Obj)} {x y : Operand} {i : TypeInfo} (a7 : ST dd F w W μ (X ++ (R ++ Y))) (hk : ∀ x, (enc x).length = k) (b3 : 0 < k) (h1 : ∀ x, ∀ u ∈ enc x, u.oneCell' = true) (ht : P.underlying t = some (.slice e)) (hi : P.info? e = some i) (hz : i.zero = some z) (ao : z.cells.size = k) (a1 : i.size = k) (a8 : i.bytes = a6) (hx : iZ E x = v) (hy : iZ E y = vs) (hR : oA e enc k v l R) (hs : Sl (Pl enc) k (hp W) vs m) (hb : kR a6 l m = some r) (h : ∀ W' v' R', ST dd F w W' μ (X ++ (R' ++ Y)) → oA e enc k v' r R' → K v' W') : lD P E ⟨d, .call ⟨.builtin .append, #[x, y], #[t, t]⟩, ty, pos, af, g⟩ W K := by
 rcases hR with ⟨rfl, rfl, rfl⟩ | ⟨s, off, cap, p, rfl, rfl, h2, h3, h4, h5⟩
 ·exact II X a7 hk b3 h1 ht hi hz ao a1 a8 hx hy (jl.nil e enc k) hs hb (fun W' v' R' a b => h W' v' R' a b.SB)
 unfold kR at hb
 split at hb
 case isFalse => cases hb
 rename_i Z
 cases hb
 have U : ∀ (V : Value) (W' : World), (Builtin.append_ #[t, t] ty #[.slice (some ⟨s, off, none⟩) l.length cap, vs]).run P W = .ok V W' → (execOp (iZ E) ⟨d, .call ⟨.builtin .append, #[x, y], #[t, t]⟩, ty, pos, af, g⟩).run P W = .ok (.value V) W' := by
  intro V W' hV
  show (do let d ← resolve (iZ E) ⟨.builtin .append, #[x, y], #[t, t]⟩ ty; invoke d.target d.args : Sem Next).run P W = _
  simp [resolve, invoke, builtin, hx, hy, hV]
 obtain ⟨A, c, rfl, b6, b7, b0⟩ := hs
 have J : ST dd F w W μ (X ++ (s, .cells p e (0, 0)) :: Y) := by simpa using a7
 have hg : W.heap[s]? = some (.cells p e (0, 0)) := (J.box s _ (by simp)).1
 have I := ns hk l
 have Q : ∀ u ∈ (m.map enc).flatten, u.oneCell' = true := by
  intro u hu
  obtain ⟨ys, b5, b4⟩ := fK.1 hu
  obtain ⟨x, _, rfl⟩ := aQ.1 b5
  exact h1 x u b4
 have G : Src P i.size t (.slice A m.length c) m.length ((m.map enc).flatten) W := by
  rw [a1]
  rcases cF m.length with h0 | h0
  ·have hm : m = [] := aX h0
   subst hm
   cases A with
   | none => exact Src.ofNil W ht c
   | some ad => exact Src.ofSlice W ht ad 0 c [] (by simp) (fun j u hu => by simp at hu) (fun u hu => by cases hu)
  ·obtain ⟨b, o, cs, T, fr, rfl, h6, h7⟩ := b0 h0
   refine Src.ofSlice W ht _ _ c _ (ns hk m) (fun j u hu => ?_) Q
   obtain ⟨i, x, q, h8, h9, rfl⟩ := Fk hk m j u hu
   obtain ⟨ys, _, av, aE⟩ := h7 i x h8
   cases av
   rw [bZ, ec W b (o + (i * k + q)) cs T fr h6, ← dz]
   exact aE q u h9
 have n := ns hk m
 have M : ((l ++ m).map enc).flatten = (l.map enc).flatten ++ (m.map enc).flatten := by simp
 generalize (m.map enc).flatten = fm at G Q n M
 subst a1
 have b9 : l.length * i.size ≤ cap * i.size := bd _ h2
 by_cases D : l.length + m.length ≤ cap
 ·have ba : l.length * i.size + m.length * i.size ≤ cap * i.size := by rw [← bn]; exact bd _ D
  have ab := gO (P := P) s (off + l.length * i.size) e fm 0 p W hg (by rw [n]; omega) Q
  have L : (Builtin.append_ #[t, t] ty #[.slice (some ⟨s, off, none⟩) l.length cap, .slice A m.length c]).run P W = .ok (.slice (some ⟨s, off, none⟩) (l.length + m.length) cap) (W.setRow s (p.toList.take (off + l.length * i.size) ++ fm ++ p.toList.drop (off + l.length * i.size + fm.length)).toArray) := by
   simp [Builtin.append_, ar ht, sizeOf, typeInfo, hi, G.len, D, G.cells, bZ]
   simp only [iv] at ab
   rw [ab]
   simp
  refine .inl ⟨_, _, U _ _ L, h _ _ [(s, _)] (by simpa using J.store _) (.inr ⟨s, off, cap, _, by rw [aj], rfl, by simpa using D, h3, ?_, ?_⟩)⟩
  ·simp only [bJ, aj, bA, cg, bL, n]
   rw [bO (by omega)]
   omega
  ·have hA : (p.toList.take (off + l.length * i.size)).length = off + l.length * i.size := by simp; omega
   show ((p.toList.take (off + l.length * i.size) ++ (fm ++ p.toList.drop (off + l.length * i.size + fm.length))).drop off).take ((l ++ m).length * i.size) = _
   rw [M, List.drop_append, eZ, hA, show off - (off + l.length * i.size) = 0 by omega, List.drop_zero, show off + l.length * i.size - off = l.length * i.size by omega, h5]
   rw [aj, bn, dl, dl, I, n, bU (by rw [I]; omega), show l.length * i.size + m.length * i.size - l.length * i.size = m.length * i.size by omega, bU (by rw [n]; omega)]
   simp
 ·have hold : (Builtin.firstCells i.size l.length (.slice (some ⟨s, off, none⟩) l.length cap)).run P W.drew = .ok ((l.map enc).flatten).toArray W.drew := by
   refine run_firstCells_some W.drew i.size l.length ⟨s, off, none⟩ l.length cap _ I (fun j u hu => ?_)
   rw [bZ]
   show W.cell? ⟨s, off + j, none⟩ = some u
   rw [ec W s (off + j) p e (0, 0) hg]
   rw [← h5] at hu
   have hj : j < l.length * i.size := by have := (aF.1 hu).1; simp at this; omega
   rw [cy hj, cq] at hu
   simpa using hu
  have hlen : (l ++ m).length = l.length + m.length := aj
  have b2 := grownCap_ge W (l.length + m.length) cap e
  have b1 := gw W (l.length + m.length) cap e Z.2
  have L := run_append_grow_src (P := P) W t t ty e i z ht hi hz (some ⟨s, off, none⟩) l.length cap ((l.map enc).flatten) hold _ m.length _ G (by omega) (by have := Z.2; unfold maxLen at this; omega) (growslice_fits (by omega) (by rw [a8]; exact Z.1))
  have h6 := J.drew.alloc (.cells (((l.map enc).flatten ++ fm).toArray ++ Builtin.zeroCells z.cells (grownCap W (l.length + m.length) cap e - (l.length + m.length))) e (0, 0))
  have h7 := (ST.drop (A := (W.drew.heap.size, _) :: X) h6).perm (L' := X ++ ([(W.heap.size, _)] ++ Y)) (by simpa using (dD (a := (W.heap.size, _)) (l₁ := X) (l₂ := Y)).symm)
  refine .inl ⟨_, _, U _ _ L, h _ _ _ h7 (jl.SB (.inr ⟨W.heap.size, grownCap W (l.length + m.length) cap e, _, by rw [hlen], rfl, by rw [hlen]; exact b2, b1, ?_, ?_⟩))⟩
  ·rw [Array.size_append, size_zeroCells, ao]
   simp only [bJ, aj, I, n]
   rw [← bn, ← bn]
   congr 1
   omega
  ·rw [Array.toList_append, List.toList_toArray, hlen, M, List.take_append_of_le_length (by simp only [aj, I, n]; rw [bn]; exact aJ _), bU (by simp only [aj, I, n]; rw [bn]; exact aJ _)]
end
end Go.Proofs.YtbnbdigcbldfhaaGreat
namespace Go.Proofs.YtbnbdigcbldfhaaGreat
open Go.RowKit
section
variable {P : Program} {ops : Array Oper} {Q : Exit → Act → World → Prop} {S : Array Bool → World → Prop}
def wP (ops : Array Oper) (l : Array Bool) : Prop := ∀ j o, ops[j]? = some o → l.getD j true = true → ∀ e ∈ o.after, Region.binds .any e = true → l.getD e.on true = true
def F9 (ops : Array Oper) : Nat → List Nat → Bool
 | _, [] => true
 | j, k :: r => (match ops[j]? with | some o => o.after.any (fun e => Region.binds .any e && e.on == k) | none => false) && F9 ops k r
theorem FI {l : Array Bool} (d : wP ops l) : ∀ (r : List Nat) (j i : Nat), F9 ops j r = true → (j :: r).getLast? = some i → l.getD j true = true → l.getD i true = true
 | [], j, i, _, h, a => by simp at h; subst h; exact a
 | k :: r, j, i, h, m, a => by
  simp only [F9, az] at h
  obtain ⟨h1, g⟩ := h
  cases c : ops[j]? with
  | none => rw [c] at h1; cases h1
  | some o =>
   rw [c] at h1
   simp only [Array.any_eq_true] at h1
   obtain ⟨n, p, h1⟩ := h1
   simp only [az, fM] at h1
   have := d j o c a o.after[n] (Array.getElem_mem p) h1.1
   rw [h1.2] at this
   exact FI d r k i g (by simpa [List.getLast?_cons_cons] using m) this
def Fe (ops : Array Oper) (i : Nat) (l : Array Bool) : Prop := wP ops l ∧ l.getD i true = false
theorem Fe.Ny {l : Array Bool} {i : Nat} (h : Fe ops i l) (j : Nat) (r : List Nat) (a : F9 ops j r = true) (d : (j :: r).getLast? = some i) : l.getD j true = false := by
 cases c : l.getD j true with
 | false => rfl
 | true => have := FI h.1 r j i a d c; rw [h.2] at this; cases this
theorem wP.start (n : Nat) (h : n = ops.size) : wP ops (Array.replicate n false) := by
 subst h
 intro j o d c
 have a : j < ops.size := (bD.1 d).1
 simp [a] at c
theorem wP.set {l : Array Bool} {i : Nat} (h : wP ops l) (s : i ∈ Region.ready .any ops l) : wP ops (l.setIfInBounds i true) := by
 intro j o q p e he n
 have up : ∀ {k : Nat}, l.getD k true = true → (l.setIfInBounds i true).getD k true = true := fun {k} hk => by
  by_cases d : i = k
  ·subst d
   by_cases m : i < l.size
   ·simp [m]
   ·simp [m]
  ·rw [iK true d]; exact hk
 by_cases c : i = j
 ·subst c
  obtain ⟨_, t, g, a⟩ := iP.1 s
  rw [q] at g
  cases g
  refine up ?_
  have := a e he n
  by_cases m : e.on < l.size
  ·simp [m] at this ⊢; exact this
  ·simp [m]
 ·rw [iK true c] at p
  exact up (h j o q p e he n)
def BS (P : Program) (ops : Array Oper) (S : Array Bool → World → Prop) (i : Nat) (o : Oper) (v : Value) (a : Act) : Prop :=
 (Region.wanted o (yielded ops a.tmps) = true ∧ ∀ l w, Fe ops i l → S l w → (execOp a.eval o).run P w = .ok (.value v) w) ∨
 (Region.wanted o (yielded ops a.tmps) = false ∧ v = undef)
theorem BS.SE {i : Nat} {o : Oper} {v : Value} {a : Act} {l : Array Bool} (h : BS P ops S i o v a) (hp : Fe ops i l) : YieldsIf P ops (S l) o v a :=
 h.imp (fun ⟨h1, c⟩ => ⟨h1, fun w hw => c l w hp hw⟩) id
def Le (P : Program) (ops : Array Oper) (Q : Exit → Act → World → Prop) (S : Array Bool → World → Prop) : Nat → Array Bool → Act → World → Prop
 | 0, l, a, w => Region.ready .any ops l = [] ∧ Q .normal a w
 | n + 1, l, a, w => (Region.ready .any ops l = [] → Q .normal a w) ∧
  ∀ i ∈ Region.ready .any ops l, wpOp P ops Q i (fun d c => S (l.setIfInBounds i true) c ∧ Le P ops Q S n (l.setIfInBounds i true) d c) a w
theorem Ki : ∀ (n : Nat) (l : Array Bool) (a : Act) (w : World), Le P ops Q S n l a w → wpAny P .any ops Q n l a w
 | 0, _, _, _, h => h
 | n + 1, _, _, _, h => ⟨h.1, fun i g => wpOp_mono (fun c j d => Ki n _ c j d.2) (h.2 i g)⟩
theorem NG {i j : Nat} {d p : Oper} {v : Value} (u : ops[j]? = some p) (m : d.apart ops p = true) (n : ∀ cs b, d.op ≠ .select cs b) (o : ∀ cs b, p.op ≠ .select cs b) (t : ∀ c a w, Q (.panic c) (a.put d.dst v) w → Q (.panic c) a w) {K : Act → World → Prop} {a : Act} {w : World} (x : BS P ops S i d v a) (h : wpOp P ops Q j K (a.put d.dst v) w) :
  wpOp P ops Q j (fun g s => BS P ops S i d v g ∧ K (g.put d.dst v) s) a w := by
 have h1 : YieldsIf P ops (fun w => ∃ l, Fe ops i l ∧ S l w) d v a := x.imp (fun ⟨h1, k⟩ => ⟨h1, fun w ⟨l, hp, hw⟩ => k l w hp hw⟩) id
 refine wpOp_mono (fun g s q => ⟨q.1.imp (fun ⟨h1, k⟩ => ⟨h1, fun l w hp hw => k w ⟨l, hp, hw⟩⟩) id, q.2⟩) (wpOp_putIf (S := fun w => ∃ l, Fe ops i l ∧ S l w) u m n o t h1 h)
theorem Hs {i : Nat} {y : Oper} {v : Value} (W : ops[i]? = some y) (t : ∀ (j : Nat) (o : Oper) cs b, ops[j]? = some o → o.op ≠ .select cs b) (hQ : ∀ c a w, Q (.panic c) (a.put y.dst v) w → Q (.panic c) a w) (hm : ∀ l w, S (l.setIfInBounds i true) w → S l w) :
  ∀ (n : Nat) (l : Array Bool) (a : Act) (w : World), (∀ j z, ops[j]? = some z → j ≠ i → l.getD j true = false → (∀ e ∈ z.after, Region.binds .any e = true → e.on ≠ i) → y.apart ops z = true) →
   wP ops l → i ∈ Region.ready .any ops l → BS P ops S i y v a → S (l.setIfInBounds i true) w → Le P ops Q S n (l.setIfInBounds i true) (a.put y.dst v) w → Le P ops Q S (n + 1) l a w := by
 intro n
 induction n with
 | zero =>
  intro l a w _ L q M A H
  refine ⟨fun h => (by rw [h] at q; cases q), fun j E => ?_⟩
  by_cases d : j = i
  ·subst d
   exact (M.SE ⟨L, (iP.1 q).1⟩).wpOp W (hm l w A) ⟨A, H⟩
  ·have := ready_mono E d
   rw [H.1] at this
   cases this
 | succ n ih =>
  intro l a w m L q M A H
  refine ⟨fun h => (by rw [h] at q; cases q), fun j E => ?_⟩
  by_cases d : j = i
  ·subst d
   exact (M.SE ⟨L, (iP.1 q).1⟩).wpOp W (hm l w A) ⟨A, H⟩
  have h1 := H.2 j (ready_mono E d)
  obtain ⟨s, z, x, D⟩ := iP.1 E
  have I : ∀ e ∈ z.after, Region.binds .any e = true → e.on ≠ i := fun e he hb U => by
   have u := D e he hb
   have h0 := (iP.1 q).1
   rw [U] at u
   rcases Nat.lt_or_ge i l.size with R | R
   ·simp [R] at h0 u; rw [h0] at u; cases u
   ·simp [Array.getElem?_eq_none R] at u
  have u := NG x (m j z x d s I) (fun cs b => t i y cs b W) (fun cs b => t j z cs b x) hQ M h1
  have p : ∀ k ok, ops[k]? = some ok → k ≠ i → (l.setIfInBounds j true).getD k true = false → (∀ e ∈ ok.after, Region.binds .any e = true → e.on ≠ i) → y.apart ops ok = true := fun k ok hk Y J Z => by
   refine m k ok hk Y ?_ Z
   by_cases G : j = k
   ·subst G; exact s
   ·rw [iK true G] at J; exact J
  have g : (l.setIfInBounds i true).setIfInBounds j true = (l.setIfInBounds j true).setIfInBounds i true := Array.setIfInBounds_comm _ _ (Ne.symm d)
  refine wpOp_mono (fun a' w' T => ?_) u
  have h4 : S ((l.setIfInBounds j true).setIfInBounds i true) w' := by rw [← g]; exact T.2.1
  refine ⟨hm _ w' h4, ih (l.setIfInBounds j true) a' w' p (L.set E) (ready_mono q (Ne.symm d)) T.1 h4 ?_⟩
  rw [← g]
  exact T.2.2
end
def PX (P : Program) (n : Nat) (ops : Array Oper) (Q : mo) (S : Array Bool → World → Prop) (fuel : Nat) (listed : Array Bool) (E : Nat → Value) (W : World) : Prop :=
 wP ops listed → ∀ a, Ag n a E → Le P ops (lift n Q) S fuel listed a W
section
variable {P : Program} {n : Nat} {Q : mo} {E : Nat → Value} {W : World} {ops : Array Oper} {S : Array Bool → World → Prop} {fuel : Nat} {listed : Array Bool}
theorem Jm {id : Nat} {l : List Oper} (S : Array Bool → World → Prop) (hm : P.follows .mixedOrders = true) (h : PX P n l.toArray Q S l.length (Array.replicate l.length false) E W.drew) : CW P n (.region id l.toArray true) Q E W := fun a c =>
 wp_region_any hm (Ki _ _ _ _ (h (wP.start _ (by simp)) a c))
def CS (ops : Array Oper) (listed : Array Bool) (i : Nat) : Bool := Region.noSelect ops && Region.free .any ops listed i && (Region.ready .any ops listed).contains i
theorem lO {o : Oper} {dd : Nat} {v : Value} (i : Nat) (j : ops[i]? = some o) (hk : CS ops listed i = true) (hw : lq n ops E o) (p : o.dst = some dd) (q : dd < n) (hm : ∀ l w, S (l.setIfInBounds i true) w → S l w) (m : S (listed.setIfInBounds i true) W) (s : ∀ l W, Fe ops i l → S l W → kq P E o W v W) (h : PX P n ops Q S fuel (listed.setIfInBounds i true) (lz E dd v) W) : PX P n ops Q S (fuel + 1) listed E W := fun g a c => by
 simp only [CS, az] at hk
 have k : i ∈ Region.ready .any ops listed := by simpa using hk.2
 exact Hs j (Region.noSelect_spec hk.1.1) (fun _ _ _ h => IK h) hm fuel listed a W (Region.free_spec j hk.1.2) g k (.inl ⟨hw.of c, fun l w hp d => by rw [c.eval]; exact s l w hp d⟩) m (by rw [p]; exact h (g.set k) _ (c.put q v))
theorem Ls {A : Value → Prop} {o : Oper} {dd : Nat} (i : Nat) (g : ops[i]? = some o) (hk : CS ops listed i = true) (hw : lq n ops E o) (d : o.dst = some dd) (j : dd < n) (hm : ∀ l w, S (l.setIfInBounds i true) w → S l w) (c : S (listed.setIfInBounds i true) W) (k : ∃ p, A p ∧ ∀ W, kq P E o W p W) (h : ∀ p, A p → PX P n ops Q S fuel (listed.setIfInBounds i true) (lz E dd p) W) : PX P n ops Q S (fuel + 1) listed E W := by
 obtain ⟨p, h1, a⟩ := k
 exact lO i g hk hw d j hm c (fun _ W _ _ => a W) (h p h1)
theorem PT {o : Oper} {dd : Nat} (i : Nat) (g : ops[i]? = some o) (hk : CS ops listed i = true) (hw : ∀ a, Ag n a E → Region.wanted o (yielded ops a.tmps) = false) (m : o.dst = some dd) (p : dd < n) (hm : ∀ l w, S (l.setIfInBounds i true) w → S l w) (k : S (listed.setIfInBounds i true) W) (h : PX P n ops Q S fuel (listed.setIfInBounds i true) (lz E dd undef) W) : PX P n ops Q S (fuel + 1) listed E W := fun d a c => by
 simp only [CS, az] at hk
 have j : i ∈ Region.ready .any ops listed := by simpa using hk.2
 exact Hs g (Region.noSelect_spec hk.1.1) (fun _ _ _ h => IK h) hm fuel listed a W (Region.free_spec g hk.1.2) d j (.inr ⟨hw a c, rfl⟩) k (by rw [m]; exact h (d.set j) _ (c.put p _))
theorem Sk {o : Oper} {dd j t : Nat} {want : Bool} (i : Nat) (p : ops[i]? = some o) (hk : CS ops listed i = true) (m : o.guard = some (j, want)) (q : (ops[j]?).bind (·.dst) = some t) (u : t < n) (c : E t = .bool (!want)) (k : o.dst = some dd) (s : dd < n) (hm : ∀ l w, S (l.setIfInBounds i true) w → S l w) (d : S (listed.setIfInBounds i true) W) (h : PX P n ops Q S fuel (listed.setIfInBounds i true) (lz E dd undef) W) : PX P n ops Q S (fuel + 1) listed E W :=
 PT i p hk (fun a g => by have v := g.yield q u c; simp [Region.wanted, m, v]) k s hm d h
theorem LF {o : Oper} {dd : Nat} (i : Nat) (w : ops[i]? = some o) (k : Region.ready .any ops listed = [i]) (hw : lq n ops E o) (p : o.dst = some dd) (q : dd < n) (h : lD P E o W fun v W' => S (listed.setIfInBounds i true) W' ∧ PX P n ops Q S fuel (listed.setIfInBounds i true) (lz E dd v) W') : PX P n ops Q S (fuel + 1) listed E W := fun m a g => by
 have c : i ∈ Region.ready .any ops listed := by rw [k]; simp
 refine ⟨fun u => (by rw [u] at k; cases k), fun j s => ?_⟩
 rw [k] at s
 obtain rfl := aC.1 s
 unfold wpOp
 simp only [w]
 rw [aq (hw.of g)]
 refine .inl ?_
 unfold Oper.wp
 rw [g.eval]
 rcases h with ⟨v, W', h1, d⟩ | ⟨W', h1, d⟩ | ⟨f, args, h1, d⟩
 ·rw [h1, cQ]; exact ⟨d.1, by rw [p]; exact d.2 (m.set c) _ (g.put q v)⟩
 ·rw [h1, dC]; exact ⟨d.1, by rw [p]; exact d.2 (m.set c) _ (g.put q _)⟩
 ·rw [h1, cR]
  refine bp d ?_
  rintro e x ⟨v, rfl, t⟩
  exact ⟨t.1, by simp only [p]; exact t.2 (m.set c) _ (g.put q v)⟩
theorem R3 {o : Oper} (i : Nat) (u : ops[i]? = some o) (k : Region.ready .any ops listed = [i]) (hw : lq n ops E o) (p : o.dst = none) (h : lD P E o W fun _ W' => S (listed.setIfInBounds i true) W' ∧ PX P n ops Q S fuel (listed.setIfInBounds i true) E W') : PX P n ops Q S (fuel + 1) listed E W := fun m a g => by
 have c : i ∈ Region.ready .any ops listed := by rw [k]; simp
 refine ⟨fun t => (by rw [t] at k; cases k), fun j q => ?_⟩
 rw [k] at q
 obtain rfl := aC.1 q
 unfold wpOp
 simp only [u]
 rw [aq (hw.of g)]
 refine .inl ?_
 unfold Oper.wp
 rw [g.eval]
 rcases h with ⟨v, W', h1, d⟩ | ⟨W', h1, d⟩ | ⟨f, args, h1, d⟩
 ·rw [h1, cQ, p]; exact ⟨d.1, d.2 (m.set c) _ (g.tN _)⟩
 ·rw [h1, dC, p]; exact ⟨d.1, d.2 (m.set c) _ (g.tN _)⟩
 ·rw [h1, cR]
  refine bp d ?_
  rintro e w ⟨v, rfl, s⟩
  simp only [p]
  exact ⟨s.1, s.2 (m.set c) _ (g.tN _)⟩
theorem km (g : Region.ready .any ops listed = []) (h : Q .normal E W) : PX P n ops Q S fuel listed E W := fun _ a c => by
 cases fuel with
 | zero => exact ⟨g, E, c, h⟩
 | succ f => exact ⟨fun _ => ⟨E, c, h⟩, fun i d => by rw [g] at d; cases d⟩
theorem KH {p : Prop} {b : Bool} (a : b = true) (h : b = false) : p := by rw [a] at h; cases h
theorem tW {a : Array Bool} (c : listed = a) (h : PX P n ops Q S fuel a E W) : PX P n ops Q S fuel listed E W := by rw [c]; exact h
theorem NR {E : Nat → Value} {a b : Nat} {x y : Value} (h : a ≠ b) : lz (lz E a x) b y = lz (lz E b y) a x := by
 funext t
 simp only [lz]
 by_cases h1 : t = a
 ·subst h1; simp [h]
 ·by_cases c : t = b
  ·subst c; simp [h1]
  ·simp [h1, c]
theorem QH {o u : Oper} {d w : Nat} (i j : Nat) (M : ops[i]? = some o) (R : ops[j]? = some u) (t : Region.ready .any ops listed = [i, j]) (hw : lq n ops E o) (A : lq n ops E u) (p : o.dst = some d) (y : u.dst = some w) (s : d < n) (z : w < n) (h : lD P E o W fun v W' => S (listed.setIfInBounds i true) W' ∧ PX P n ops Q S fuel (listed.setIfInBounds i true) (lz E d v) W') (J : lD P E u W fun v W' => S (listed.setIfInBounds j true) W' ∧ PX P n ops Q S fuel (listed.setIfInBounds j true) (lz E w v) W') : PX P n ops Q S (fuel + 1) listed E W := fun x a m => by
 have key : ∀ (k : Nat) (q : Oper) (e : Nat), ops[k]? = some q → k ∈ Region.ready .any ops listed → lq n ops E q → q.dst = some e → e < n → (lD P E q W fun v W' => S (listed.setIfInBounds k true) W' ∧ PX P n ops Q S fuel (listed.setIfInBounds k true) (lz E e v) W') →
   wpOp P ops (lift n Q) k (fun I D => S (listed.setIfInBounds k true) D ∧ Le P ops (lift n Q) S fuel (listed.setIfInBounds k true) I D) a W := by
  intro k q e hk c hw p s h
  unfold wpOp
  simp only [hk]
  rw [aq (hw.of m)]
  refine .inl ?_
  unfold Oper.wp
  rw [m.eval]
  rcases h with ⟨v, W', h1, g⟩ | ⟨W', h1, g⟩ | ⟨f, args, h1, g⟩
  ·rw [h1, cQ]; exact ⟨g.1, by rw [p]; exact g.2 (x.set c) _ (m.put s v)⟩
  ·rw [h1, dC]; exact ⟨g.1, by rw [p]; exact g.2 (x.set c) _ (m.put s _)⟩
  ·rw [h1, cR]
   refine bp g ?_
   rintro e D ⟨v, rfl, G⟩
   exact ⟨G.1, by simp only [p]; exact G.2 (x.set c) _ (m.put s v)⟩
 refine ⟨fun L => (by rw [L] at t; cases t), fun k hk => ?_⟩
 rw [t] at hk
 rcases ay.1 hk with rfl | hk
 ·exact key _ o d M (by rw [t]; simp) hw p s h
 ·obtain rfl := aC.1 hk
  exact key _ u w R (by rw [t]; simp) A y z J
theorem ML {dd : Bool} {F : Nat → Prop} {w : World} {μ : jw} {L : List (Nat × Obj)} {t A ty D : TypeId} {p p' : String} {f U : Array Edge} {z T : Value} {d m : Nat} (i j : Nat) (I : ops[i]? = some ⟨some d, .alloc t, ty, p, f, none⟩) (J : ops[j]? = some ⟨some m, .alloc A, D, p', U, none⟩) (hr : Region.ready .any ops listed = [i, j]) (x : Region.ready .any ops (listed.setIfInBounds i true) = [j]) (y : Region.ready .any ops (listed.setIfInBounds j true) = [i]) (M : d < n) (q : m < n) (v : Nat.beq d m = false) (u : Nat.beq i j = false) (o : ST dd F w W μ L) (R : ∀ w, (zeroValue t).run P w = .ok z w) (s : ∀ w, (zeroValue A).run P w = .ok T w) (h1 : ∀ W', qg μ L W' → S (listed.setIfInBounds i true) W') (Y : ∀ W', qg μ L W' → S (listed.setIfInBounds j true) W') (G : ∀ W', qg μ L W' → S ((listed.setIfInBounds i true).setIfInBounds j true) W') (h : ∀ W' b c, ST dd F w W' μ ((b, .cells z.cells t (0, 0)) :: (c, .cells T.cells A (0, 0)) :: L) → PX P n ops Q S fuel ((listed.setIfInBounds i true).setIfInBounds j true) (lz (lz E d (.pointer (some ⟨b, 0, none⟩))) m (.pointer (some ⟨c, 0, none⟩))) W') :
  PX P n ops Q S (fuel + 1 + 1) listed E W := by
 have k : (listed.setIfInBounds j true).setIfInBounds i true = (listed.setIfInBounds i true).setIfInBounds j true := Array.setIfInBounds_comm _ _ (fun e => by subst e; simp at u)
 have Z : d ≠ m := fun e => by subst e; simp at v
 refine QH i j I J hr (.inl rfl) (.inl rfl) rfl rfl M q (jK o R (fun W1 b a => ⟨h1 _ (a.has.sub (js.refl _) fun _ hp => .tail _ hp), ?_⟩)) (jK o s (fun W1 c a => ⟨Y _ (a.has.sub (js.refl _) fun _ hp => .tail _ hp), ?_⟩))
 ·refine LF j J x (.inl rfl) rfl q (jK a s (fun W2 c g => ⟨G _ (g.has.sub (js.refl _) fun _ hp => .tail _ (.tail _ hp)), ?_⟩))
  exact h W2 b c (g.perm (List.Perm.swap _ _ _))
 ·refine LF i I y (.inl rfl) rfl M (jK a R (fun W2 b g => ⟨?_, ?_⟩))
  ·rw [k]; exact G _ (g.has.sub (js.refl _) fun _ hp => .tail _ (.tail _ hp))
  ·rw [k, ← NR Z]; exact h W2 b c g
theorem oO {l : Array Bool} {i j : Nat} {A : Prop} (a : Nat.beq i j = false) (h : (l.setIfInBounds i true).getD j true = false → A) : l.getD j true = false → A := fun c => h (by
 rw [iK true (fun e => by subst e; simp at a)]; exact c)
end
theorem CE.at {α : Type} {e : TypeId} {enc : α → List Value} {k : Nat} {v : Value} {l : List α} {R : List (Nat × Obj)} (h : jl e enc k v l R) (hk : ∀ x, (enc x).length = k) {p : Value} {i : Nat} (hp : CE R k p i) {x : α} (g : l[i]? = some x) : At (Aj R) p (enc x) := by
 obtain ⟨c, a, cap, rfl, rfl, _, _, _, _, rfl, d⟩ := zZ h hk hp g
 exact ⟨c, i * k, a, e, (0, 0), rfl, by simp [Aj], d⟩
theorem tX.form {κ β : Type} {kenc : κ → Value} {vf : β → Value} {μ : jw} {v : Value} {l : List (κ × β)} (h : tX kenc vf μ v l) : ∃ r, v = .map r := by
 rcases h with ⟨h, _⟩ | ⟨m, es, clock, h, _⟩
 ·exact ⟨_, h⟩
 ·exact ⟨_, h⟩
section
variable {P : Program} {W : World} {E : Nat → Value} {d : Option Nat} {ty : TypeId} {pos : String} {af : Array Edge} {g : Option (Nat × Bool)}
theorem HE {tx tv : TypeId} {x y : Operand} {α β : Type} {fv : Value} {μ : jw} {c : α → List Value} {m : β → Value} {pm : α → Option β} {s u : Array TypeId} {bb : Bool} (i : P.underlying tx = some (.func s u bb)) (h : qt P fv μ c m pm) (j : iZ E x = fv) (k : iZ E y = .nilFunc) :
  kq P E ⟨d, .binOp .eql tx x y tv, ty, pos, af, g⟩ W (.bool false) W := by
 obtain ⟨f, a, b, rfl⟩ := h.form
 exact JR i j k
end
noncomputable def FF {β : Type} (l : List (ByteArray × β)) : Option (List ByteArray) :=
 open Classical in if (l.map (·.1)).Nodup ∧ (∀ p ∈ l, p.1.size ≤ maxLen) ∧ l.length * 16 ≤ 140737488355328 then some (mL (l.map (·.1))) else none
def Nw {κ κ2 β α : Type} (a : Nat) (mk : κ → κ2 → α) (l : List (κ × List (κ2 × β))) : Option (List α) :=
 if (l.flatMap (fun p => p.2.map (fun q => mk p.1 q.1))).length * a ≤ 140737488355328 ∧ (l.flatMap (fun p => p.2.map (fun q => mk p.1 q.1))).length ≤ maxLen then some (l.flatMap (fun p => p.2.map (fun q => mk p.1 q.1))) else none
section
variable {P : Program} {n : Nat} {Q : mo} {E : Nat → Value} {W : World} {ops : Array Oper} {rest : List Oper}
variable {dd : Bool} {α : Type} {enc : α → List Value} {k : Nat} {μ : jw} {v : Value}
variable {d : Option Nat} {ty : TypeId} {pos : String} {af : Array Edge} {g : Option (Nat × Bool)} {F : Nat → Prop} {w : World} {L : List (Nat × Obj)}
def yL (enc : α → List Value) (k : Nat) : py (List α) := fun μ ys x => ∃ v, ys = [v] ∧ Sl (Pl enc) k μ v x
theorem yL.mono (enc : α → List Value) (k : Nat) : FJ (yL enc k) := fun _ _ _ _ c ⟨v, h1, a⟩ => ⟨v, h1, a.mono (Pl.mono _) c⟩
inductive AM (enc : α → List Value) (k : Nat) (μ : jw) : List Value → List (List α) → Prop
 | nil : AM enc k μ [] []
 | cons {v : Value} {x : List α} {vs : List Value} {l : List (List α)} : Sl (Pl enc) k μ v x → AM enc k μ vs l → AM enc k μ (v :: vs) (x :: l)
theorem AM.length {vs : List Value} {l : List (List α)} (h : AM enc k μ vs l) : vs.length = l.length := by
 induction h with
 | nil => rfl
 | cons _ _ ih => simp [ih]
theorem AM.get {vs : List Value} {l : List (List α)} (h : AM enc k μ vs l) : ∀ (i : Nat) (x : List α), l[i]? = some x → ∃ v, vs[i]? = some v ∧ Sl (Pl enc) k μ v x := by
 induction h with
 | nil => intro i x a; simp at a
 | cons h1 _ ih =>
  intro i x a
  cases i with
  | zero => simp at a; subst a; exact ⟨_, rfl, h1⟩
  | succ i => simpa using ih i x (by simpa using a)
theorem yL.lit {b m : Nat} {vs : List Value} {e : TypeId} {l : List (List α)} (hm : l.length = m) (d : m ≤ maxLen) (g : μ b = some (.cells vs.toArray e (0, 0))) (h : AM enc k μ vs l) : Sl (yL enc k) 1 μ (.slice (some ⟨b, 0, none⟩) m m) l := by
 subst hm
 refine ⟨_, _, rfl, aJ _, d, fun _ => ⟨b, 0, _, _, _, rfl, g, fun i x n => ?_⟩⟩
 obtain ⟨v, h1, c⟩ := h.get i x n
 refine ⟨[v], rfl, ⟨v, rfl, c⟩, fun j y a => ?_⟩
 cases j with
 | zero => simp at a; subst a; simpa using h1
 | succ j => simp at a
theorem E6 {k2 : Nat} {t e : TypeId} {x a : Operand} {u : IntKind} {i : Int} {l : List (List α)} {x0 : List α} (q : P.underlying t = some (.slice e)) (he : ∀ w, (sizeOf e).run P w = .ok 1 w) (s : iZ E x = v) (m : iZ E a = .int u i) (o : Sl (yL enc k2) 1 μ v l) (c : 0 ≤ i) (n : l[i.toNat]? = some x0) :
  ∃ p, (∃ v0, At μ p [v0] ∧ Sl (Pl enc) k2 μ v0 x0) ∧ ∀ W, kq P E ⟨d, .indexAddr t x a, ty, pos, af, g⟩ W p W := by
 obtain ⟨p, ys, h1, ⟨v0, rfl, h⟩, j, k⟩ := GY (d := d) (ty := ty) (pos := pos) (af := af) (g := g) q he s m o c n
 exact ⟨p, ⟨v0, j, h⟩, k⟩
theorem Jg {x : Operand} {t e : TypeId} (a : P.underlying t = some (.slice e)) (c : iZ E x = .slice none 0 0) : kq P E ⟨d, .call ⟨.builtin .cap, #[x], #[t]⟩, ty, pos, af, g⟩ W (.int .i64 0) W := by
 show (do let d ← resolve (iZ E) ⟨.builtin .cap, #[x], #[t]⟩ ty; invoke d.target d.args : Sem Next).run P W = _
 simp [resolve, invoke, builtin, Builtin.cap_, ar a, c, goInt]
theorem JD {x y : Operand} {ats : Array TypeId} {k : IntKind} {a b : Int} (c : iZ E x = .int k a) (h : iZ E y = .int k b) :
  kq P E ⟨d, .call ⟨.builtin .max, #[x, y], ats⟩, ty, pos, af, g⟩ W (.int k (if b > a then b else a)) W := by
 show (do let d ← resolve (iZ E) ⟨.builtin .max, #[x, y], ats⟩ ty; invoke d.target d.args : Sem Next).run P W = _
 simp [resolve, invoke, c, h, builtin, Builtin.max_, Builtin.max2]
theorem Mv {t e : TypeId} {x ih : Operand} {i : IntKind} (c : P.underlying t = some (.slice e)) (he : ∀ w, (sizeOf e).run P w = .ok k w) (h : iZ E x = .slice none 0 0) (a : iZ E ih = .int i 0) :
  kq P E ⟨d, .slice t x none (some ih) none, ty, pos, af, g⟩ W (.slice none 0 0) W := by
 show (do pure (.value (← Instr.sliceAt t (iZ E x) none (some (iZ E ih)) none)) : Sem Next).run P W = _
 rw [h, a]
 simp [Instr.sliceAt, Instr.slice, Instr.sliceBounds, Instr.sliceBound, asIntOf, ar c, he W]
def Gu {α : Type} (a : Nat) (z : α) (n : Int) : Option (List α) := if 0 < n ∧ n * a ≤ 140737488355328 ∧ n ≤ (maxLen : Int) then some (List.replicate n.toNat z) else none
theorem Fz (t m ty e : TypeId) (i : TypeInfo) (z : Value) (w : P.underlying t = some (.slice e)) (k : P.underlying m = some (.int .i64)) (q : P.info? e = some i) (x : i.zero = some z) (n : Nat) (o : 0 < n) (v : 0 < i.size) (p : n ≤ 9223372036854775807) (d : n * i.bytes ≤ 140737488355328) (W : World) :
  (Builtin.append_ #[t, m] ty #[.slice none 0 0, .int .i64 (n : Int)]).run P W =
   .ok (.slice (some ⟨W.heap.size, 0, none⟩) n (grownCap W n 0 e)) (W.drew.alloc (.cells (Builtin.zeroCells z.cells n ++ Builtin.zeroCells z.cells (grownCap W n 0 e - n)) e)) := by
 have hw : IntKind.i64.wrap (n : Int) = (n : Int) := by unfold IntKind.wrap; simp [IntKind.bits, IntKind.signed]; omega
 have h1 : ¬ ((n : Int) < 0) := by omega
 have a : ¬ (281474976710656 < (n : Int) * i.bytes) := by
  have := Int.ofNat_le.2 d
  rw [Int.natCast_mul] at this
  omega
 have g : ¬ (n * i.size = 0) := fun h => by rcases Nat.mul_eq_zero.1 h with h | h <;> omega
 have s : n ≠ 0 := by omega
 have u : i.size ≠ 0 := by omega
 have c : ¬ (9223372036854775807 < (n : Int)) := by omega
 have j : ¬ (281474976710656 < Builtin.nextslicecap n 0 * i.bytes) := by rw [nextslicecap_zero o]; omega
 simp [Builtin.append_, ar w, ar k, sizeOf, typeInfo, zeroValue, q, x, asInt, asIntOf, hw, h1, a, s, c, j, Question.forced, run_firstCells_none, newRow, grownCap]
 exact fun h => absurd h g
theorem Iw {K : Value → World → Prop} {α : Type} {e t A : TypeId} {enc : α → List Value} {k q : Nat} {c : Value} {n : Int} {z : α} {r : List α} (X : List (Nat × Obj)) {Y : List (Nat × Obj)} {x y : Operand} {i : TypeInfo} (j : ST dd F w W μ (X ++ Y)) (hk : ∀ x, (enc x).length = k) (T : 0 < k) (ht : P.underlying t = some (.slice e)) (a1 : P.underlying A = some (.int .i64)) (hi : P.info? e = some i) (hz : i.zero = some c) (Z : i.size = k) (L : i.bytes = q) (hc : c.cells = (enc z).toArray) (hx : iZ E x = .slice none 0 0) (hy : iZ E y = .int .i64 n) (a : Gu q z n = some r) (h : ∀ W' v' R', ST dd F w W' μ (X ++ (R' ++ Y)) → jl e enc k v' r R' → K v' W') : lD P E ⟨d, .call ⟨.builtin .append, #[x, y], #[t, A]⟩, ty, pos, af, g⟩ W K := by
 unfold Gu at a
 split at a
 case isFalse => cases a
 rename_i J
 cases a
 obtain ⟨n, rfl⟩ : ∃ m : Nat, n = (m : Int) := ⟨n.toNat, by omega⟩
 have U : 0 < n := by omega
 subst Z; subst L
 have hM : n ≤ maxLen := by omega
 have I : n ≤ 9223372036854775807 := by simp only [maxLen] at hM; omega
 have G : n * i.bytes ≤ 140737488355328 := Int.ofNat_le.1 (by rw [Int.natCast_mul]; exact J.2.1)
 have hr := Fz (P := P) t A ty e i c ht a1 hi hz n U T I G W
 have u : (execOp (iZ E) ⟨d, .call ⟨.builtin .append, #[x, y], #[t, A]⟩, ty, pos, af, g⟩).run P W = .ok (.value (.slice (some ⟨W.heap.size, 0, none⟩) n (grownCap W n 0 e))) (W.drew.alloc (.cells (Builtin.zeroCells c.cells n ++ Builtin.zeroCells c.cells (grownCap W n 0 e - n)) e)) := by
  show (do let d ← resolve (iZ E) ⟨.builtin .append, #[x, y], #[t, A]⟩ ty; invoke d.target d.args : Sem Next).run P W = _
  simp [resolve, invoke, builtin, hx, hy, hr]
 have Q := mS _ _ _ _ hr
 refine .inl ⟨_, _, u, ?_⟩
 have R := grownCap_ge W n 0 e
 have M : grownCap W n 0 e ≤ maxLen := gw W n 0 e hM
 have a6 : ∀ m, (Builtin.zeroCells c.cells m).toList = (List.replicate m (enc z)).flatten := fun m => by rw [hc, BR]
 have v : c.cells.size = i.size := by rw [hc, bJ, hk]
 have p : jl e enc i.size (.slice (some ⟨W.heap.size, 0, none⟩) n (grownCap W n 0 e)) (List.replicate n z) [(W.heap.size, .cells (Builtin.zeroCells c.cells n ++ Builtin.zeroCells c.cells (grownCap W n 0 e - n)) e (0, 0))] := by
  refine .inr ⟨W.heap.size, grownCap W n 0 e, _, by rw [fH], rfl, by simpa using R, M, ?_, ?_⟩
  ·simp only [Array.size_append, size_zeroCells, v, ← bn]
   congr 1
   omega
  ·have D : (Builtin.zeroCells c.cells n).toList.length = n * i.size := by rw [bL, size_zeroCells, v]
   rw [fH, Array.toList_append, ← D, fh, a6, gx]
 refine h _ _ _ ?_ p
 have hex : Ex dd W (W.drew.alloc (.cells (Builtin.zeroCells c.cells n ++ Builtin.zeroCells c.cells (grownCap W n 0 e - n)) e)) := ⟨rfl, rfl, rfl, rN.of Q, by simp, fun b a => heap_alloc_old W.drew _ a⟩
 have h1 := j.Ej hex
 have s := h1.nd
 refine ⟨h1.os, h1.tape, h1.output, h1.drawn, h1.size, h1.kN, h1.mem, fun b o a => ?_, ?_⟩
 ·simp only [aI, aC] at a
  rcases a with a | a | a
  ·exact h1.box b o (by simp [a])
  ·cases a
   refine ⟨heap_alloc_new W.drew _, ?_, .inl j.size⟩
   cases hm : μ W.heap.size with
   | none => rfl
   | some x => have := j.Cf hm; omega
  ·exact h1.box b o (by simp [a])
 ·simp only [bh, aO, dG, cU] at s ⊢
  refine (ey dD).2 (cv.2 ⟨fun hm => ?_, s⟩)
  rw [← bh] at hm
  obtain ⟨⟨b, o⟩, a, D⟩ := aQ.1 hm
  have := j.Dl a
  simp at D
  omega
end
theorem wC {p : Prop} [Decidable p] {u : Unit} (h : lI (decide p) = some u) : p := fi (EY h)
section
variable {P : Program} {E : Nat → Value} {W : World} {d : Option Nat} {ty : TypeId} {pos : String} {af : Array Edge} {g : Option (Nat × Bool)}
 {F : Nat → Prop} {w : World} {μ : jw} {L : List (Nat × Obj)} {α : Type} {e : TypeId} {enc : α → List Value} {k : Nat} {v : Value} {l : List α} {R : List (Nat × Obj)} {dd : Bool}
def zi {α : Type} (l : List α) (i j : Nat) : List α := l.take i ++ l.drop j ++ l.drop (l.length - (j - i))
theorem Bp {α : Type} (l : List α) {i j : Nat} (a : i ≤ j) (c : j ≤ l.length) : (zi l i j).length = l.length := by
 simp [zi]; omega
theorem Ha (hk : ∀ x, (enc x).length = k) (l : List α) (i : Nat) (c : i ≤ l.length) : (l.map enc).flatten.drop (i * k) = ((l.drop i).map enc).flatten := by
 have h1 : (l.map enc).flatten = ((l.take i).map enc).flatten ++ ((l.drop i).map enc).flatten := by rw [← ez, ← bh, dV]
 have a : ((l.take i).map enc).flatten.length = i * k := by rw [ns hk, bA, bO c]
 rw [h1, ← a, List.drop_left]
theorem Jx {K : Value → World → Prop} (X : List (Nat × Obj)) {Y : List (Nat × Obj)} {t : TypeId} {x y : Operand} {i j : Nat} {v1 u : Value} {ti : TypeInfo} (I : ST dd F w W μ (X ++ (R ++ Y))) (h : jl e enc k v l R) (h1 : jl e enc k v1 (l.take i) R) (hk : ∀ x, (enc x).length = k) (b0 : 0 < k) (ao : ∀ x, ∀ u ∈ enc x, u.oneCell' = true) (ht : P.underlying t = some (.slice e)) (hi : P.info? e = some ti) (a6 : ti.size = k) (J : i ≤ j) (hj : j ≤ l.length) (hu : Bd k v j u) (hx : iZ E x = v1) (hy : iZ E y = u) (hK : ∀ W' v' R', ST dd F w W' μ (X ++ (R' ++ Y)) → jl e enc k v (zi l i j) R' → jl e enc k v' (l.take i ++ l.drop j) R' → K v' W') : lD P E ⟨d, .call ⟨.builtin .append, #[x, y], #[t, t]⟩, ty, pos, af, g⟩ W K := by
 have z : ∀ (V : Value) (W' : World), (Builtin.append_ #[t, t] ty #[v1, u]).run P W = .ok V W' → (execOp (iZ E) ⟨d, .call ⟨.builtin .append, #[x, y], #[t, t]⟩, ty, pos, af, g⟩).run P W = .ok (.value V) W' := by
  intro V W' hV
  show (do let d ← resolve (iZ E) ⟨.builtin .append, #[x, y], #[t, t]⟩ ty; invoke d.target d.args : Sem Next).run P W = _
  simp [resolve, invoke, builtin, hx, hy, hV]
 obtain ⟨A, n, c, A', c', e1, rfl, h7, h8⟩ := hu
 rcases h with ⟨rfl, rfl, rfl⟩ | ⟨D, cap, m, rfl, rfl, q1, q2, q3, q4⟩
 ·cases e1
  have b3 : v1 = .slice none 0 0 := by
   rcases h1 with ⟨h, _, _⟩ | ⟨_, _, _, _, h, _⟩
   ·exact h
   ·cases h
  subst b3
  refine .inl ⟨_, W, z (.slice none 0 0) W ?_, hK W _ [] I (by simpa [zi] using jl.nil e enc k) (by simpa using jl.nil e enc k)⟩
  cases A' <;> simp [Builtin.append_, ar ht, sizeOf, typeInfo, hi, Builtin.lenOf, Builtin.firstCells, loadCells, loadCellsFrom]
 ·cases e1
  obtain ⟨g1, a, s, rfl, eR, a1, a2, a3, a4⟩ : ∃ g1 a s, v1 = .slice (some ⟨g1, 0, none⟩) (l.take i).length a ∧ [(D, Obj.cells m e (0, 0))] = [(g1, .cells s e (0, 0))] ∧ (l.take i).length ≤ a ∧ a ≤ maxLen ∧ s.size = a * k ∧ s.toList.take ((l.take i).length * k) = ((l.take i).map enc).flatten := by
   rcases h1 with ⟨_, _, h⟩ | h
   ·cases h
   ·exact h
  cases eR
  have a7 : a = c := ek b0 (a3.symm.trans q3)
  subst a7
  have p : (l.take i).length = i := by rw [bA]; omega
  rw [p] at a1 a4 z
  have hb := (I.box D (.cells m e (0, 0)) (by simp)).1
  by_cases b1 : j < l.length
  ·obtain ⟨b, o, e2, rfl⟩ := h8 b1
   cases e2
   have M : (((l.drop j).map enc).flatten).length = (l.length - j) * k := by rw [ns hk, cg]
   have e0 : m.toList.length = a * k := by simpa using q3
   have b9 : l.length * k ≤ a * k := bd _ q1
   have b7 : j * k ≤ l.length * k := bd _ hj
   have b6 : i * k ≤ j * k := bd _ J
   have b5 : (l.length - j) * k = l.length * k - j * k := Nat.sub_mul _ _ _
   have av : (m.toList.take (l.length * k)).drop (j * k) = ((l.drop j).map enc).flatten := by rw [q4, Ha hk l j hj]
   have U : ∀ q u, (((l.drop j).map enc).flatten)[q]? = some u → W.cell? (Addr.add ⟨D, 0 + j * k, none⟩ q) = some u := by
    intro q u hq
    rw [bZ, ec W D (0 + j * k + q) m e (0, 0) hb, cd]
    rw [← av, cq] at hq
    have ad : j * k + q < l.length * k := by
     have := (aF.1 hq).1
     rw [bA] at this
     omega
    rw [cy ad] at hq
    simpa using hq
   have Z : ∀ u ∈ ((l.drop j).map enc).flatten, u.oneCell' = true := by
    intro u hu
    obtain ⟨ys, b4, b2⟩ := fK.1 hu
    obtain ⟨x, _, rfl⟩ := aQ.1 b4
    exact ao x u b2
   have hr := run_append_room (P := P) W t ty e ti ht hi D i a m hb ⟨D, 0 + j * k, none⟩ (l.length - j) c' _ (by rw [a6, M]) U Z (by omega) (by rw [a6, M]; simp only [bL] at e0; omega)
   rw [a6, M] at hr
   have hS := ST.store (A := X) (b := D) (cs := m) (t := e) (B := Y) I (m.toList.take (i * k) ++ ((l.drop j).map enc).flatten ++ m.toList.drop (i * k + (l.length - j) * k)).toArray
   have ab : m.toList.take (i * k) = ((l.take i).map enc).flatten := a4
   have L : (m.toList.take (i * k) ++ ((l.drop j).map enc).flatten).length = (i + (l.length - j)) * k := by rw [aj, bA, M, e0, bO (by omega), bn]
   have G : (m.toList.take (i * k) ++ ((l.drop j).map enc).flatten ++ m.toList.drop (i * k + (l.length - j) * k)).length = a * k := by
    rw [aj, L, cg, e0, bn]; omega
   refine .inl ⟨_, _, z _ _ hr, hK _ _ [(D, .cells _ e (0, 0))] hS (.inr ⟨D, a, _, by rw [Bp l J hj], rfl, by rw [Bp l J hj]; exact q1, q2, by rw [bJ, G], ?_⟩) (.inr ⟨D, a, _, by rw [aj, p, cg], rfl, by rw [aj, p, cg]; omega, q2, by rw [bJ, G], ?_⟩)⟩
   ·rw [Bp l J hj]
    show List.take (l.length * k) (m.toList.take (i * k) ++ ((l.drop j).map enc).flatten ++ m.toList.drop (i * k + (l.length - j) * k)) = _
    have Q : l.length * k = (i + (l.length - j)) * k + (j - i) * k := by rw [← bn]; congr 1; omega
    have hm : (l.length - (j - i)) * k = i * k + (l.length - j) * k := by rw [← bn]; congr 1; omega
    have T : (m.toList.drop (i * k + (l.length - j) * k)).take ((j - i) * k) = ((l.drop (l.length - (j - i))).map enc).flatten := by
     rw [← hm, ← Ha hk l _ (by omega), ← q4, eZ]
     congr 1
     rw [← Nat.sub_mul]; congr 1; omega
    rw [Q, dl, L, Nat.add_sub_cancel_left, bU (by rw [L]; omega), T, ab]
    simp [zi, aB]
   ·rw [aj, p, cg]
    show List.take ((i + (l.length - j)) * k) (m.toList.take (i * k) ++ ((l.drop j).map enc).flatten ++ m.toList.drop (i * k + (l.length - j) * k)) = _
    rw [← L, fh, ab]
    simp
  ·have aE : j = l.length := by omega
   subst aE
   have a8 : zi l i l.length = l := by
    unfold zi
    rw [show l.length - (l.length - i) = i by omega, ai, bu, dV]
   refine .inl ⟨.slice (some ⟨D, 0, none⟩) i a, W, z _ W ?_, hK W _ _ I (by rw [a8]; exact .inr ⟨D, a, m, rfl, rfl, q1, q2, q3, q4⟩) (.inr ⟨D, a, m, by simp [p], rfl, by simpa [p] using a1, q2, q3, by simpa [p] using a4⟩)⟩
   cases A' <;> simp [Builtin.append_, ar ht, sizeOf, typeInfo, hi, Builtin.lenOf, Builtin.firstCells, loadCells, loadCellsFrom, storeCells, a1]
theorem M9 {i : List α} {z : Value} {t : TypeId} {x m ih : Operand} {ik y : IntKind} {a b : Int} (I : P.underlying t = some (.slice e)) (he : ∀ w, (sizeOf e).run P w = .ok k w) (q : 0 < k) (T : jl e enc k v l R) (h1 : jl e enc k z i R) (J : iZ E x = z) (G : iZ E m = .int ik a) (D : iZ E ih = .int y b) (ha : 0 ≤ a) (U : a ≤ b) (Y : b = (l.length : Int)) (o : a = (i.length : Int)) : ∃ u, Bd k v a.toNat u ∧ ∀ W, kq P E ⟨d, .slice t x (some m) (some ih) none, ty, pos, af, g⟩ W u W := by
 subst o; subst Y
 have hle : i.length ≤ l.length := by omega
 rcases T with ⟨rfl, rfl, rfl⟩ | ⟨n, cap, L, rfl, rfl, q1, q2, q3, q4⟩
 ·have Z : z = .slice none 0 0 ∧ i = [] := by
   rcases h1 with ⟨h, Q, _⟩ | ⟨_, _, _, _, h, _⟩
   ·exact ⟨h, Q⟩
   ·cases h
  obtain ⟨rfl, rfl⟩ := Z
  refine ⟨.slice none 0 0, ⟨none, 0, 0, none, 0, rfl, rfl, aJ _, fun h => absurd h (by simp)⟩, fun W => ?_⟩
  show (do pure (.value (← Instr.sliceAt t (iZ E x) (some (iZ E m)) (some (iZ E ih)) none)) : Sem Next).run P W = _
  rw [J, G, D]
  simp [Instr.sliceAt, Instr.slice, Instr.sliceBounds, Instr.sliceBound, asIntOf, ar I, he W]
 ·rcases h1 with ⟨_, _, h⟩ | ⟨g1, c, A, rfl, M, a1, a2, a3, a4⟩
  ·cases h
  cases M
  have j : c = cap := ek q (a3.symm.trans q3)
  subst j
  refine ⟨.slice (some (if c = i.length then ⟨n, 0, none⟩ else (Addr.add ⟨n, 0, none⟩ (i.length * k)))) (l.length - i.length) (c - i.length), ⟨_, _, _, _, _, rfl, rfl, by simpa using hle, fun s => ⟨n, 0, rfl, ?_⟩⟩, fun W => ?_⟩
  ·simp only [db] at s ⊢
   rw [ap (by omega)]; simp [bZ]
  ·show (do pure (.value (← Instr.sliceAt t (iZ E x) (some (iZ E m)) (some (iZ E ih)) none)) : Sem Next).run P W = _
   rw [J, G, D]
   have p : (i.length : Int) ≤ (l.length : Int) ∧ (l.length : Int) ≤ (c : Int) := ⟨by omega, by omega⟩
   simp [Instr.sliceAt, Instr.slice, Instr.sliceBounds, Instr.sliceBound, asIntOf, ar I, he W, p, hle, q1]
   split <;> rfl
theorem NS {t : TypeId} {x c ih h : Operand} {T o p : IntKind} {a b m : Int} (z : P.underlying t = some (.slice e)) (he : ∀ w, (sizeOf e).run P w = .ok k w) (M : jl e enc k v l R) (A : iZ E x = v) (y : iZ E c = .int T a) (s : iZ E ih = .int o b) (hm : iZ E h = .int p m) (U : 0 ≤ a) (Q : a ≤ b) (Y : b ≤ m) (j : m ≤ (l.length : Int)) : ∃ u, True ∧ ∀ W, kq P E ⟨d, .slice t x (some c) (some ih) (some h), ty, pos, af, g⟩ W u W := by
 obtain ⟨a, rfl⟩ : ∃ n : Nat, a = (n : Int) := ⟨a.toNat, by omega⟩
 obtain ⟨b, rfl⟩ : ∃ n : Nat, b = (n : Int) := ⟨b.toNat, by omega⟩
 obtain ⟨m, rfl⟩ : ∃ n : Nat, m = (n : Int) := ⟨m.toNat, by omega⟩
 have G : a ≤ b := by omega
 have I : b ≤ m := by omega
 rcases M with ⟨rfl, rfl, rfl⟩ | ⟨q, cap, D, rfl, rfl, Z, q2, q3, q4⟩
 ·have i : m = 0 := by simp at j; omega
  subst i
  have J : b = 0 := by omega
  subst J
  have L : a = 0 := by omega
  subst L
  refine ⟨.slice none 0 0, trivial, fun W => ?_⟩
  show (do pure (.value (← Instr.sliceAt t (iZ E x) (some (iZ E c)) (some (iZ E ih)) (some (iZ E h)))) : Sem Next).run P W = _
  rw [A, y, s, hm]
  simp [Instr.sliceAt, Instr.slice, Instr.sliceBounds, Instr.sliceBound, asIntOf, ar z, he W]
 ·have i : m ≤ cap := by omega
  refine ⟨.slice (if m = a then some ⟨q, 0, none⟩ else some (Addr.add ⟨q, 0, none⟩ (a * k))) (b - a) (m - a), trivial, fun W => ?_⟩
  show (do pure (.value (← Instr.sliceAt t (iZ E x) (some (iZ E c)) (some (iZ E ih)) (some (iZ E h)))) : Sem Next).run P W = _
  rw [A, y, s, hm]
  simp [Instr.sliceAt, Instr.slice, Instr.sliceBounds, Instr.sliceBound, asIntOf, ar z, he W, G, I, i]
theorem jl.NV {i c : List α} {s : Value} {R2 : List (Nat × Obj)} (m : 0 < k) (hk : ∀ x, (enc x).length = k) (E : jl e enc k v l R) (h1 : jl e enc k s c R) (p : jl e enc k v i R2) (q : c.length ≤ i.length) : jl e enc k s (i.take c.length) R2 := by
 rcases E with ⟨rfl, rfl, rfl⟩ | ⟨D, cap, z, rfl, rfl, L, M, G, P⟩
 ·rcases h1 with ⟨rfl, rfl, _⟩ | ⟨_, _, _, _, h, _⟩
  ·rcases p with ⟨_, rfl, rfl⟩ | ⟨_, _, _, h, _⟩
   ·exact jl.nil e enc k
   ·cases h
  ·cases h
 ·rcases h1 with ⟨_, _, h⟩ | ⟨g1, a, o, rfl, A, t, a2, a3, a4⟩
  ·cases h
  cases A
  have g : a = cap := ek m (a3.symm.trans G)
  subst g
  rcases p with ⟨h, _⟩ | ⟨g2, n, d, h, rfl, I, u, w, y⟩
  ·cases h
  ·simp only [Value.slice.injEq, fe, Addr.mk.injEq] at h
   obtain ⟨⟨rfl, _, _⟩, J, rfl⟩ := h
   have j : (i.take c.length).length = c.length := by rw [bA]; omega
   refine .inr ⟨D, a, d, by rw [j], rfl, by rw [j]; exact t, u, w, ?_⟩
   rw [j, AT hk i c.length q, ← y, ej, bO (bd _ q)]
end
section
variable {x y : Nat × Obj} {A B C L R S : List (Nat × Obj)}
theorem Pz : (x :: A).Perm (x :: A) := .refl _
theorem Pb (h : A.Perm (x :: B)) : (y :: A).Perm (x :: y :: B) := (h.cons y).trans (.swap ..)
theorem Pr (h : A.Perm (x :: B)) : (S ++ A).Perm (x :: (S ++ B)) := (h.append_left S).trans dD
theorem Qz : (R ++ A).Perm (R ++ A) := .refl _
theorem Qb (h : A.Perm (R ++ B)) : (y :: A).Perm (R ++ (y :: B)) := (h.cons y).trans List.perm_middle.symm
theorem Qr (h : A.Perm (R ++ B)) : (S ++ A).Perm (R ++ (S ++ B)) := (h.append_left S).trans (gn S R B)
def lm (L L' : List (Nat × Obj)) : Prop := ∃ M, L.Perm (L' ++ M)
theorem Sn : lm L [] := ⟨L, .refl _⟩
theorem St : lm L L := ⟨[], by rw [bu]⟩
theorem Sb (h : L.Perm (x :: A)) (k : lm A B) : lm L (x :: B) := let ⟨M, m⟩ := k; ⟨M, h.trans (m.cons x)⟩
theorem Sr (h : L.Perm (R ++ A)) (k : lm A B) : lm L (R ++ B) := let ⟨M, m⟩ := k; ⟨M, by rw [aB]; exact h.trans (m.append_left R)⟩
theorem Kb (k : lm A B) : lm (x :: A) (x :: B) := Sb Pz k
theorem Kr (k : lm A B) : lm (R ++ A) (R ++ B) := Sr Qz k
theorem Db (k : lm A B) : lm (x :: A) B := let ⟨M, m⟩ := k; ⟨x :: M, (m.cons x).trans List.perm_middle.symm⟩
theorem Dr (k : lm A B) : lm (R ++ A) B := let ⟨M, m⟩ := k; ⟨R ++ M, (m.append_left R).trans (gn R B M)⟩
theorem lm.mem (s : lm L A) : ∀ p, p ∈ A → p ∈ L := fun p hp => let ⟨M, m⟩ := s; m.mem_iff.2 (aW _ hp)
theorem ST.iU {dd : Bool} {F : Nat → Prop} {w W : World} {μ : jw} (h : ST dd F w W μ L) (s : lm L A) : ST dd F w W μ A := let ⟨M, m⟩ := s; (h.perm m).sublist (List.sublist_append_left A M)
theorem qg.iU {μ : jw} {W : World} (h : qg μ L W) (s : lm L A) : qg μ A W := h.sub (js.refl _) s.mem
theorem qg.pO {μ μ' : jw} {W : World} (h : qg μ L W) (a : js μ' μ) (s : lm L A) : qg μ' A W := h.sub a s.mem
theorem Cn : L.Perm ([] ++ L) := .refl _
theorem Cb (h : L.Perm (x :: A)) (k : A.Perm (B ++ C)) : L.Perm ((x :: B) ++ C) := h.trans (k.cons x)
theorem Cr (h : L.Perm (R ++ A)) (k : A.Perm (B ++ C)) : L.Perm ((R ++ B) ++ C) := by rw [aB]; exact h.trans (k.append_left R)
theorem C0 (k : L.Perm (B ++ C)) : L.Perm (([] ++ B) ++ C) := k
theorem Tn : ([] ++ A).Perm A := .refl _
theorem Tb (h : (A ++ B).Perm C) : ((x :: A) ++ B).Perm (x :: C) := h.cons x
theorem Tr (h : (A ++ B).Perm C) : ((R ++ A) ++ B).Perm (R ++ C) := by rw [aB]; exact h.append_left R
theorem Nb (h : L.Perm (x :: A)) (k : A.Perm B) : L.Perm (x :: B) := h.trans (k.cons x)
theorem Nr (h : L.Perm (R ++ A)) (k : A.Perm B) : L.Perm (R ++ B) := h.trans (k.append_left R)
theorem Nz : L.Perm L := .refl _
theorem To {R' R1 : List (Nat × Obj)} (hp : R.Perm (R' ++ R1)) : (R ++ A).Perm (R' ++ (R1 ++ A)) := by rw [← aB]; exact hp.append_right A
theorem Mh : x ∈ x :: A := .head _
theorem Mt (h : x ∈ A) : x ∈ y :: A := .tail _ h
theorem Ma (h : x ∈ A) : x ∈ R ++ A := bY _ h
theorem Ml (h : x ∈ R) : x ∈ R ++ A := aW _ h
end
section
variable {dd : Bool} {F : Nat → Prop} {w W : World} {μ : jw} {L L0 L1 Y R : List (Nat × Obj)}
theorem ST.I4 (h : ST dd jD w W μ L) (s : lm L L1) : pX dd [] L1 w W := let ⟨_, m⟩ := s; (h.perm m).R4
theorem ST.kC (h : ST dd (keys L0) w W μ L) (s : lm L L1) : pX dd L0 L1 w W := let ⟨_, m⟩ := s; (h.perm m).Se
theorem ST.xw : ∀ {R : List (Nat × Obj)} {μ : jw}, ST dd F w W μ (R ++ Y) → ∃ μ', ST dd F w W μ' Y ∧ js μ μ' ∧ Lo F w μ μ' ∧ ∀ b o, (b, o) ∈ R → μ' b = some o
 | [], μ, h => ⟨μ, h, js.refl _, Lo.refl, fun _ _ h => by cases h⟩
 | (g, o) :: R, μ, h => by
  have c : ST dd F w W μ ([] ++ (g, o) :: (R ++ Y)) := h
  obtain ⟨μ', d, a2, a3, a4⟩ := ST.xw (R := R) (ST.GX (A := []) c)
  refine ⟨μ', d, (ST.GB (A := []) c).trans a2, (ST.NA (A := []) c).trans a3, fun b i a => ?_⟩
  rcases ay.1 a with a | a
  ·cases a; exact a2 _ _ (aq rfl)
  ·exact a4 b i a
theorem ST.yk {α : Type} {e' : TypeId} {enc : α → List Value} {k : Nat} {v : Value} {l : List α} (a : ST dd F w W μ (R ++ Y)) (h : jl e' enc k v l R) (hk : ∀ x, (enc x).length = k) : ∃ μ', ST dd F w W μ' Y ∧ js μ μ' ∧ Lo F w μ μ' ∧ Sl (Pl enc) k μ' v l := by
 obtain ⟨μ', c, a2, a3, a4⟩ := ST.xw a
 exact ⟨μ', c, a2, a3, h.sl hk a4⟩
section
variable {P : Program} {n : Nat} {Q : mo} {E : Nat → Value} {V : World} {id : Nat} {l : List Oper} {A B C : List (Nat × Obj)}
theorem jV (a : qg μ A V.drew) (hm : P.follows .mixedOrders = true) (h : PX P n l.toArray Q (fun _ W => qg μ A W) l.length (Array.replicate l.length false) E V.drew) : CW P n (.region id l.toArray true) Q E V := Jm _ hm h
theorem yK (i : Nat) (a : qg μ A V.drew) (h1 : qg μ B V.drew) (hm : P.follows .mixedOrders = true) (h : PX P n l.toArray Q (fun l W => qg μ A W ∧ (l.getD i true = false → qg μ B W)) l.length (Array.replicate l.length false) E V.drew) : CW P n (.region id l.toArray true) Q E V := Jm _ hm h
end
structure nR (μ : jw) (L0 : List (Nat × Obj)) (w : World) : Prop where
 H : By L0 w
 N : (L0.map (·.1)).Nodup
 S : js μ (pY w L0)
theorem ST.ur (h : nR μ L0 w) : ST dd (keys L0) w w μ L0 := (ST.Rc h.H h.N).kw h.S
end
section
variable {dd : Bool} {P : Program} {E : Nat → Value} {W : World} {d : Option Nat} {ty : TypeId} {pos : String} {af : Array Edge} {g : Option (Nat × Bool)} {F : Nat → Prop} {w : World} {μ : jw} {L : List (Nat × Obj)}
theorem jy {K : Value → World → Prop} {B : List (Nat × Obj)} {t : TypeId} {x y : Operand} (v : Value) {b off : Nat} {cs : Array Value} {T : TypeId} (cs' : Array Value) (a : ST dd F w W μ ((b, .cells cs T (0, 0)) :: B)) (k : iZ E x = .pointer (some ⟨b, off, none⟩)) (m : iZ E y = v) (c : ∀ w, (sizeOf t).run P w = .ok v.cells.size w) (h1 : ∀ u ∈ v.cells.toList, u.oneCell' = true) (j : off + v.cells.size ≤ cs.size) (i : (cs.toList.take off ++ v.cells.toList ++ cs.toList.drop (off + v.cells.size)).toArray = cs') (h : ∀ W', ST dd F w W' μ ((b, .cells cs' T (0, 0)) :: B) → K undef W') : lD P E ⟨d, .store t x y, ty, pos, af, g⟩ W K := zU [] v cs' a k m c h1 j i h
end
section
variable {dd : Bool}
variable {P : Program} {n : Nat} {Q : mo} {E : Nat → Value} {W : World} {ops : Array Oper} {rest : List Oper}
 {d : Option Nat} {ty : TypeId} {pos : String} {af : Array Edge} {g : Option (Nat × Bool)}
 {F : Nat → Prop} {w : World} {μ : jw} {L : List (Nat × Obj)}
theorem kX {K : Value → World → Prop} {α : Type} {e t : TypeId} {enc : α → List Value} {k a : Nat} {z v vs : Value} {l m r : List α} {R Y : List (Nat × Obj)} {x y : Operand} {i : TypeInfo} (c : ST dd F w W μ (R ++ Y)) (hk : ∀ x, (enc x).length = k) (n : 0 < k) (h1 : ∀ x, ∀ u ∈ enc x, u.oneCell' = true) (I : P.underlying t = some (.slice e)) (D : P.info? e = some i) (M : i.zero = some z) (p : z.cells.size = k) (o : i.size = k) (j : i.bytes = a) (J : iZ E x = v) (L : iZ E y = vs) (s : jl e enc k v l R) (G : Sl (Pl enc) k (hp W) vs m) (A : kR a l m = some r) (h : ∀ W' q R', ST dd F w W' μ (R' ++ Y) → jl e enc k q r R' → K q W') : lD P E ⟨d, .call ⟨.builtin .append, #[x, y], #[t, t]⟩, ty, pos, af, g⟩ W K :=
 II [] c hk n h1 I D M p o j J L s G A h
end
section
variable {dd : Bool}
variable {P : Program} {E : Nat → Value} {W : World} {d : Option Nat} {ty : TypeId} {pos : String} {af : Array Edge} {g : Option (Nat × Bool)}
 {F : Nat → Prop} {w : World} {μ : jw} {L : List (Nat × Obj)}
theorem Lm {K : Value → World → Prop} {α : Type} {e : TypeId} {enc : α → List Value} {k : Nat} {l : List α} {f : FuncId} {fv : Operand} {ax : Array Operand} {ats : Array TypeId} {caps : Array Value} {args : List Value} (Y : List (Nat × Obj)) (a : ST dd F w W μ Y) (j : iZ E fv = .func (.func f) #[] caps) (he : ∀ args w, (callFunc f args).run P w = .ok (.enter f args) w) (c : ax.map (iZ E) ++ caps = args.toArray) (i : jZ dd P f args W e enc k l) (h : ∀ W' v μ' R, ST dd F w W' μ' (R ++ Y) → js μ μ' → Lo F w μ μ' → jl e enc k v l R → K v W') : lD P E ⟨d, .call ⟨.value fv, ax, ats⟩, ty, pos, af, g⟩ W K :=
 Lx [] Y a j he c i h
end
section
variable {dd : Bool}
variable {P : Program} {E : Nat → Value} {W : World} {d : Option Nat} {ty : TypeId} {pos : String} {af : Array Edge} {g : Option (Nat × Bool)}
 {F : Nat → Prop} {w : World} {μ : jw} {L : List (Nat × Obj)} {α : Type} {e' : TypeId} {enc : α → List Value} {k : Nat} {v : Value} {l : List α} {R : List (Nat × Obj)}
theorem vM {K : Value → World → Prop} {Y : List (Nat × Obj)} {t : TypeId} {x y : Operand} {p u : Value} {i : Nat} {x0 x1 : α} (a : ST dd F w W μ (R ++ Y)) (h : jl e' enc k v l R) (hk : ∀ x, (enc x).length = k) (h1 : ∀ x, ∀ u ∈ enc x, u.oneCell' = true) (n : iZ E x = p) (o : iZ E y = u) (hu : u.cells = (enc x1).toArray) (hp : CE R k p i) (m : l[i]? = some x0) (j : ∀ w, (sizeOf t).run P w = .ok k w) (c : ∀ W' R', ST dd F w W' μ (R' ++ Y) → jl e' enc k v (l.set i x1) R' → K undef W') : lD P E ⟨d, .store t x y, ty, pos, af, g⟩ W K :=
 LB [] a h hk h1 n o hu hp m j c
end
section
variable {dd : Bool}
variable {P : Program} {W : World} {κ : Type} {kt : TypeId} {kenc : κ → Value} {beq : κ → κ → Bool}
variable {β : Type} {vf : β → Value} {E : Nat → Value} {d : Option Nat} {ty : TypeId} {pos : String} {af : Array Edge} {g : Option (Nat × Bool)} {F : Nat → Prop} {w : World} {μ : jw} {L : List (Nat × Obj)}
theorem EI {i : Value → World → Prop} {Y R : List (Nat × Obj)} {t e : TypeId} {m x y : Operand} {c : Value} {l : List (κ × β)} {k : κ} {v : β} (K : ni P kt kenc beq) (n : P.underlying t = some (.map kt e)) (a : ST dd F w W μ (R ++ Y)) (h : kl kenc vf c l R) (hm : iZ E m = c) (o : iZ E x = kenc k) (p : iZ E y = vf v) (j : ∀ W' R', ST dd F w W' μ (R' ++ Y) → kl kenc vf c (lZ beq l k v) R' → i undef W') : lD P E ⟨d, .mapUpdate t m x y, ty, pos, af, g⟩ W i :=
 yy [] K n a h hm o p j
end
section
variable {dd : Bool}
variable {P : Program} {E : Nat → Value} {W : World} {d : Option Nat} {ty : TypeId} {pos : String} {af : Array Edge} {g : Option (Nat × Bool)}
 {F : Nat → Prop} {w : World} {μ : jw} {L : List (Nat × Obj)} {α : Type} {e' : TypeId} {enc : α → List Value} {k : Nat} {v : Value} {l : List α} {R : List (Nat × Obj)}
theorem vc {K : Value → World → Prop} (z : α) {Y : List (Nat × Obj)} {t e : TypeId} {x : Operand} {u c : Value} {i : Nat} (a : ST dd F w W μ (R ++ Y)) (h : jl e' enc k v l R) (hk : ∀ x, (enc x).length = k) (h1 : ∀ x, ∀ u ∈ enc x, u.oneCell' = true) (n : P.underlying t = some (.slice e)) (p : ∀ w, (zeroValue e).run P w = .ok c w) (hu : Bd k v i u) (m : c.cells = (enc z).toArray) (o : iZ E x = u) (j : ∀ W' R', ST dd F w W' μ (R' ++ Y) → jl e' enc k v (ml l i z) R' → K (.tuple #[]) W') : lD P E ⟨d, .call ⟨.builtin .clear, #[x], #[t]⟩, ty, pos, af, g⟩ W K :=
 Kf z [] a h hk h1 n p hu m o j
end
section
variable {dd : Bool}
variable {κ γ : Type} {Q : Value → γ → List (Nat × Obj) → Prop} {beq : κ → κ → Bool} {kenc : κ → Value}
variable {P : Program} {W : World} {kt : TypeId} {E : Nat → Value} {d : Option Nat} {ty : TypeId} {pos : String} {af : Array Edge} {g : Option (Nat × Bool)} {F : Nat → Prop} {w : World} {μ : jw} {L : List (Nat × Obj)}
variable {κ2 β : Type} {kenc2 : κ2 → Value} {vf : β → Value} {beq2 : κ2 → κ2 → Bool} {kt2 : TypeId}
theorem Mx {i : Value → World → Prop} {Y R : List (Nat × Obj)} {t e : TypeId} {m x y : Operand} {n : Value} {c : List (κ × Value)} {l j : List (κ × List (κ2 × β))} {k : κ} {k2 : κ2} {v : β} (hk : ∀ {x y : κ}, beq x y = true → x = y) (K : ni P kt2 kenc2 beq2) (q : P.underlying t = some (.map kt2 e)) (a : ST dd F w W μ (R ++ Y)) (h : ll kenc (kl kenc2 vf) n c l R) (hm : iZ E m = qk beq c k (.map none)) (s : iZ E x = kenc2 k2) (u : iZ E y = vf v) (p : E2 beq beq2 l k k2 v = some j) (o : ∀ W' R', ST dd F w W' μ (R' ++ Y) → ll kenc (kl kenc2 vf) n c j R' → i undef W') : lD P E ⟨d, .mapUpdate t m x y, ty, pos, af, g⟩ W i :=
 NH [] hk K q a h hm s u p o
end
section
variable {dd : Bool}
variable {κ γ : Type} {Q : Value → γ → List (Nat × Obj) → Prop} {beq : κ → κ → Bool} {kenc : κ → Value}
variable {P : Program} {W : World} {kt : TypeId} {E : Nat → Value} {d : Option Nat} {ty : TypeId} {pos : String} {af : Array Edge} {g : Option (Nat × Bool)} {F : Nat → Prop} {w : World} {μ : jw} {L : List (Nat × Obj)}
variable {κ2 β : Type} {kenc2 : κ2 → Value} {vf : β → Value} {beq2 : κ2 → κ2 → Bool} {kt2 : TypeId}
theorem NO {i : Value → World → Prop} {Y R R2 : List (Nat × Obj)} {t e : TypeId} {m x y : Operand} {c : Value} {n : List (κ × Value)} {l j : List (κ × γ)} {k : κ} {u : Value} {z : γ} (K : ni P kt kenc beq) (s : P.underlying t = some (.map kt e)) (a : ST dd F w W μ (R ++ (R2 ++ Y))) (h : ll kenc Q c n l R) (hm : iZ E m = c) (v : iZ E x = kenc k) (A : iZ E y = u) (q : Q u z R2) (p : Fu beq l k z = some j) (o : ∀ W' R', ST dd F w W' μ (R' ++ Y) → ll kenc Q c (lZ beq n k u) j R' → i undef W') : lD P E ⟨d, .mapUpdate t m x y, ty, pos, af, g⟩ W i :=
 MH [] K s a h hm v A q p o
end
section
variable {dd : Bool}
variable {κ γ : Type} {Q : Value → γ → List (Nat × Obj) → Prop} {beq : κ → κ → Bool} {kenc : κ → Value}
variable {P : Program} {W : World} {kt : TypeId} {E : Nat → Value} {d : Option Nat} {ty : TypeId} {pos : String} {af : Array Edge} {g : Option (Nat × Bool)} {F : Nat → Prop} {w : World} {μ : jw} {L : List (Nat × Obj)}
theorem Qs {i : Value → World → Prop} {Y R R1 : List (Nat × Obj)} {t e : TypeId} {m x y : Operand} {c : Value} {j : List (κ × Value)} {l : List (κ × γ)} {k : κ} {u : Value} {z : γ} (K : ni P kt kenc beq) (p : P.underlying t = some (.map kt e)) (a : ST dd F w W μ (R ++ (R1 ++ Y))) (h : Mi beq kenc Q c j l k R) (hm : iZ E m = c) (q : iZ E x = kenc k) (s : iZ E y = u) (o : Q u z R1) (n : ∀ W' R', ST dd F w W' μ (R' ++ Y) → ll kenc Q c (lZ beq j k u) (lZ beq l k z) R' → i undef W') : lD P E ⟨d, .mapUpdate t m x y, ty, pos, af, g⟩ W i :=
 Rq [] K p a h hm q s o n
end
section
variable {dd : Bool}
variable {κ γ : Type} {Q : Value → γ → List (Nat × Obj) → Prop} {beq : κ → κ → Bool} {kenc : κ → Value}
variable {P : Program} {W : World} {kt : TypeId} {E : Nat → Value} {d : Option Nat} {ty : TypeId} {pos : String} {af : Array Edge} {g : Option (Nat × Bool)} {F : Nat → Prop} {w : World} {μ : jw} {L : List (Nat × Obj)}
theorem LG {j : Value → World → Prop} {Y R : List (Nat × Obj)} {t e : TypeId} {m x : Operand} {i z : Value} {x0 : γ} {s : List (κ × Value)} {l : List (κ × γ)} {k : κ} (hk : ∀ {x y : κ}, beq x y = true ↔ x = y) (K : ni P kt kenc beq) (o : P.underlying t = some (.map kt e)) (q : ∀ w, (zeroValue e).run P w = .ok z w) (c : Q z x0 []) (a : ST dd F w W μ (R ++ Y)) (h : ll kenc Q i s l R) (hm : iZ E m = i) (p : iZ E x = kenc k) (n : ∀ W' v st R' R1, ST dd F w W' μ (R' ++ (R1 ++ Y)) → Q v ((ki beq l k).getD x0) R1 → Ie beq kenc Q i l k st R' → j (.tuple #[v, .int .i64 (st : Nat)]) W') : lD P E ⟨d, .mapEntry t m x, ty, pos, af, g⟩ W j :=
 LY [] hk K o q c a h hm p n
end
section
variable {dd : Bool}
variable {κ γ : Type} {Q : Value → γ → List (Nat × Obj) → Prop} {beq : κ → κ → Bool} {kenc : κ → Value}
variable {P : Program} {W : World} {kt : TypeId} {E : Nat → Value} {d : Option Nat} {ty : TypeId} {pos : String} {af : Array Edge} {g : Option (Nat × Bool)} {F : Nat → Prop} {w : World} {μ : jw} {L : List (Nat × Obj)}
theorem JI {j : Value → World → Prop} {Y R R1 : List (Nat × Obj)} {t e : TypeId} {m s y : Operand} {i u : Value} {z : γ} {l : List (κ × γ)} {k : κ} {st : Nat} (hk : ∀ {x y : κ}, beq x y = true ↔ x = y) (K : ni P kt kenc beq) (a : ST dd F w W μ (R ++ (R1 ++ Y))) (h : Ie beq kenc Q i l k st R) (hm : iZ E m = i) (p : iZ E s = .int .i64 (st : Nat)) (q : iZ E y = u) (o : Q u z R1) (n : ∀ W' c R', ST dd F w W' μ (R' ++ Y) → ll kenc Q i c (lZ beq l k z) R' → j undef W') : lD P E ⟨d, .entryStore t m s y, ty, pos, af, g⟩ W j :=
 JJ (e := e) [] hk K a h hm p q o n
end
section
variable {dd : Bool}
variable {α : Type} {e : TypeId} {enc : α → List Value} {k : Nat} {v : Value} {l : List α} {R : List (Nat × Obj)}
variable {P : Program} {W : World} {E : Nat → Value} {d : Option Nat} {ty : TypeId} {pos : String} {af : Array Edge} {g : Option (Nat × Bool)} {F : Nat → Prop} {w : World} {μ : jw} {L : List (Nat × Obj)}
theorem Kd {K : Value → World → Prop} {t : TypeId} {a : Nat} {z vs : Value} {m r : List α} {Y : List (Nat × Obj)} {x y : Operand} {i : TypeInfo} (c : ST dd F w W μ (R ++ Y)) (hk : ∀ x, (enc x).length = k) (n : 0 < k) (h1 : ∀ x, ∀ u ∈ enc x, u.oneCell' = true) (I : P.underlying t = some (.slice e)) (D : P.info? e = some i) (M : i.zero = some z) (p : z.cells.size = k) (o : i.size = k) (j : i.bytes = a) (J : iZ E x = v) (L : iZ E y = vs) (s : oA e enc k v l R) (G : Sl (Pl enc) k (hp W) vs m) (A : kR a l m = some r) (h : ∀ W' q R', ST dd F w W' μ (R' ++ Y) → oA e enc k q r R' → K q W') : lD P E ⟨d, .call ⟨.builtin .append, #[x, y], #[t, t]⟩, ty, pos, af, g⟩ W K :=
 Ka [] c hk n h1 I D M p o j J L s G A h
end
section
variable {P : Program} {n : Nat} {Q : mo} {E : Nat → Value} {W : World} {ops : Array Oper} {rest : List Oper}
variable {dd : Bool} {α : Type} {enc : α → List Value} {k : Nat} {μ : jw} {v : Value}
variable {d : Option Nat} {ty : TypeId} {pos : String} {af : Array Edge} {g : Option (Nat × Bool)} {F : Nat → Prop} {w : World} {L : List (Nat × Obj)}
theorem ID {K : Value → World → Prop} {α : Type} {e t q : TypeId} {enc : α → List Value} {k a : Nat} {u : Value} {n : Int} {z : α} {r : List α} {Y : List (Nat × Obj)} {x y : Operand} {i : TypeInfo} (c : ST dd F w W μ Y) (hk : ∀ x, (enc x).length = k) (m : 0 < k) (G : P.underlying t = some (.slice e)) (p : P.underlying q = some (.int .i64)) (D : P.info? e = some i) (L : i.zero = some u) (o : i.size = k) (j : i.bytes = a) (A : u.cells = (enc z).toArray) (I : iZ E x = .slice none 0 0) (J : iZ E y = .int .i64 n) (v : Gu a z n = some r) (h : ∀ W' s R', ST dd F w W' μ (R' ++ Y) → jl e enc k s r R' → K s W') : lD P E ⟨d, .call ⟨.builtin .append, #[x, y], #[t, q]⟩, ty, pos, af, g⟩ W K :=
 Iw [] c hk m G p D L o j A I J v h
end
section
variable {P : Program} {E : Nat → Value} {W : World} {d : Option Nat} {ty : TypeId} {pos : String} {af : Array Edge} {g : Option (Nat × Bool)}
 {F : Nat → Prop} {w : World} {μ : jw} {L : List (Nat × Obj)} {α : Type} {e : TypeId} {enc : α → List Value} {k : Nat} {v : Value} {l : List α} {R : List (Nat × Obj)} {dd : Bool}
theorem I2 {K : Value → World → Prop} {Y : List (Nat × Obj)} {t : TypeId} {x y : Operand} {i j : Nat} {v1 u : Value} {p : TypeInfo} (c : ST dd F w W μ (R ++ Y)) (h : jl e enc k v l R) (h1 : jl e enc k v1 (l.take i) R) (hk : ∀ x, (enc x).length = k) (n : 0 < k) (a : ∀ x, ∀ u ∈ enc x, u.oneCell' = true) (D : P.underlying t = some (.slice e)) (z : P.info? e = some p) (o : p.size = k) (m : i ≤ j) (A : j ≤ l.length) (hu : Bd k v j u) (G : iZ E x = v1) (I : iZ E y = u) (s : ∀ W' q R', ST dd F w W' μ (R' ++ Y) → jl e enc k v (zi l i j) R' → jl e enc k q (l.take i ++ l.drop j) R' → K q W') : lD P E ⟨d, .call ⟨.builtin .append, #[x, y], #[t, t]⟩, ty, pos, af, g⟩ W K :=
 Jx [] c h h1 hk n a D z o m A hu G I s
end
section
variable {P : Program} {n : Nat} {Q : mo} {E : Nat → Value} {W : World} {ops : Array Oper} {rest : List Oper}
variable {d j t : Nat} {want : Bool} {v : Value} {ins : Go.Op} {ty : TypeId} {pos : String} {af : Array Edge} {A : Value → Prop}
theorem V (c : kq P E ⟨some d, ins, ty, pos, af, none⟩ W v W) (h : LW P n ops Q rest (lz E d v) W) (a : d < n := by decide) : LW P n ops Q (⟨some d, ins, ty, pos, af, none⟩ :: rest) E W := GM (.inl rfl) rfl a c h
theorem VE (h : lD P E ⟨some d, ins, ty, pos, af, none⟩ W fun v W' => LW P n ops Q rest (lz E d v) W') (a : d < n := by decide) : LW P n ops Q (⟨some d, ins, ty, pos, af, none⟩ :: rest) E W := Qv (.inl rfl) rfl a h
theorem VO (h : lD P E ⟨none, ins, ty, pos, af, none⟩ W fun _ W' => LW P n ops Q rest E W') : LW P n ops Q (⟨none, ins, ty, pos, af, none⟩ :: rest) E W := Sg (.inl rfl) rfl h
theorem VQ (c : ∃ p, A p ∧ ∀ W, kq P E ⟨some d, ins, ty, pos, af, none⟩ W p W) (h : ∀ p, A p → LW P n ops Q rest (lz E d p) W) (a : d < n := by decide) : LW P n ops Q (⟨some d, ins, ty, pos, af, none⟩ :: rest) E W := RF (.inl rfl) rfl a c h
theorem Vg (c : (ops[j]?).bind (·.dst) = some t) (a : E t = .bool want) (i : kq P E ⟨some d, ins, ty, pos, af, some (j, want)⟩ W v W) (h : LW P n ops Q rest (lz E d v) W) (k : t < n := by decide) (g : d < n := by decide) : LW P n ops Q (⟨some d, ins, ty, pos, af, some (j, want)⟩ :: rest) E W := GM (.inr ⟨j, want, t, rfl, c, k, a⟩) rfl g i h
theorem ND (c : (ops[j]?).bind (·.dst) = some t) (a : E t = .bool want) (h : lD P E ⟨some d, ins, ty, pos, af, some (j, want)⟩ W fun v W' => LW P n ops Q rest (lz E d v) W') (i : t < n := by decide) (g : d < n := by decide) : LW P n ops Q (⟨some d, ins, ty, pos, af, some (j, want)⟩ :: rest) E W := Qv (.inr ⟨j, want, t, rfl, c, i, a⟩) rfl g h
theorem SF (c : (ops[j]?).bind (·.dst) = some t) (a : E t = .bool want) (i : ∃ p, A p ∧ ∀ W, kq P E ⟨some d, ins, ty, pos, af, some (j, want)⟩ W p W) (h : ∀ p, A p → LW P n ops Q rest (lz E d p) W) (k : t < n := by decide) (g : d < n := by decide) : LW P n ops Q (⟨some d, ins, ty, pos, af, some (j, want)⟩ :: rest) E W := RF (.inr ⟨j, want, t, rfl, c, k, a⟩) rfl g i h
theorem Vn (c : (ops[j]?).bind (·.dst) = some t) (a : E t = .bool (!want)) (h : LW P n ops Q rest (lz E d undef) W) (i : t < n := by decide) (g : d < n := by decide) : LW P n ops Q (⟨some d, ins, ty, pos, af, some (j, want)⟩ :: rest) E W := RT rfl g rfl c i a h
theorem Vu (c : (ops[j]?).bind (·.dst) = some t) (a : E t = undef) (h : LW P n ops Q rest (lz E d undef) W) (i : t < n := by decide) (g : d < n := by decide) : LW P n ops Q (⟨some d, ins, ty, pos, af, some (j, want)⟩ :: rest) E W := QZ rfl g rfl c i a h
end
section
variable {P : Program} {n : Nat} {Q : mo} {E : Nat → Value} {W : World} {ops : Array Oper} {S : Array Bool → World → Prop} {fuel : Nat} {listed : Array Bool} {μ : jw} {B : List (Nat × Obj)}
variable {d j t : Nat} {want : Bool} {v : Value} {ins : Go.Op} {ty : TypeId} {pos : String} {af : Array Edge} {A : Value → Prop}
theorem X (i : Nat) (c : ops[i]? = some ⟨some d, ins, ty, pos, af, none⟩) (a : S (listed.setIfInBounds i true) W) (j : ∀ {W}, kq P E ⟨some d, ins, ty, pos, af, none⟩ W v W) (h : PX P n ops Q S fuel (listed.setIfInBounds i true) (lz E d v) W) (hk : CS ops listed i = true := by kernel_rfl) (hm : ∀ l w, S (l.setIfInBounds i true) w → S l w := by exact fun _ _ h => h) (g : d < n := by decide) : PX P n ops Q S (fuel + 1) listed E W := lO i c hk (.inl rfl) rfl g hm a (fun _ _ _ _ => j) h
theorem XH (i : Nat) (c : ops[i]? = some ⟨some d, ins, ty, pos, af, none⟩) (a : qg μ B W) (j : ∀ W, qg μ B W → kq P E ⟨some d, ins, ty, pos, af, none⟩ W v W) (h : PX P n ops Q (fun _ W => qg μ B W) fuel (listed.setIfInBounds i true) (lz E d v) W) (hk : CS ops listed i = true := by kernel_rfl) (g : d < n := by decide) : PX P n ops Q (fun _ W => qg μ B W) (fuel + 1) listed E W := lO i c hk (.inl rfl) rfl g (fun _ _ h => h) a (fun _ W _ h => j W h) h
theorem XQ (i : Nat) (c : ops[i]? = some ⟨some d, ins, ty, pos, af, none⟩) (a : S (listed.setIfInBounds i true) W) (j : ∃ p, A p ∧ ∀ W, kq P E ⟨some d, ins, ty, pos, af, none⟩ W p W) (h : ∀ p, A p → PX P n ops Q S fuel (listed.setIfInBounds i true) (lz E d p) W) (hk : CS ops listed i = true := by kernel_rfl) (hm : ∀ l w, S (l.setIfInBounds i true) w → S l w := by exact fun _ _ h => h) (g : d < n := by decide) : PX P n ops Q S (fuel + 1) listed E W := Ls i c hk (.inl rfl) rfl g hm a j h
theorem XE (i : Nat) (a : ops[i]? = some ⟨some d, ins, ty, pos, af, none⟩) (h : lD P E ⟨some d, ins, ty, pos, af, none⟩ W fun v W' => S (listed.setIfInBounds i true) W' ∧ PX P n ops Q S fuel (listed.setIfInBounds i true) (lz E d v) W') (g : Region.ready .any ops listed = [i] := by kernel_rfl) (c : d < n := by decide) : PX P n ops Q S (fuel + 1) listed E W := LF i a g (.inl rfl) rfl c h
theorem XO (i : Nat) (a : ops[i]? = some ⟨none, ins, ty, pos, af, none⟩) (h : lD P E ⟨none, ins, ty, pos, af, none⟩ W fun _ W' => S (listed.setIfInBounds i true) W' ∧ PX P n ops Q S fuel (listed.setIfInBounds i true) E W') (c : Region.ready .any ops listed = [i] := by kernel_rfl) : PX P n ops Q S (fuel + 1) listed E W := R3 i a c (.inl rfl) rfl h
theorem Xg (i : Nat) (g : ops[i]? = some ⟨some d, ins, ty, pos, af, some (j, want)⟩) (k : (ops[j]?).bind (·.dst) = some t) (a : E t = .bool want) (c : S (listed.setIfInBounds i true) W) (p : ∀ {W}, kq P E ⟨some d, ins, ty, pos, af, some (j, want)⟩ W v W) (h : PX P n ops Q S fuel (listed.setIfInBounds i true) (lz E d v) W) (hk : CS ops listed i = true := by kernel_rfl) (hm : ∀ l w, S (l.setIfInBounds i true) w → S l w := by exact fun _ _ h => h) (o : t < n := by decide) (m : d < n := by decide) : PX P n ops Q S (fuel + 1) listed E W := lO i g hk (.inr ⟨j, want, t, rfl, k, o, a⟩) rfl m hm c (fun _ _ _ _ => p) h
theorem xz (i : Nat) (g : ops[i]? = some ⟨some d, ins, ty, pos, af, some (j, want)⟩) (k : (ops[j]?).bind (·.dst) = some t) (a : E t = .bool want) (c : qg μ B W) (p : ∀ W, qg μ B W → kq P E ⟨some d, ins, ty, pos, af, some (j, want)⟩ W v W) (h : PX P n ops Q (fun _ W => qg μ B W) fuel (listed.setIfInBounds i true) (lz E d v) W) (hk : CS ops listed i = true := by kernel_rfl) (o : t < n := by decide) (m : d < n := by decide) : PX P n ops Q (fun _ W => qg μ B W) (fuel + 1) listed E W := lO i g hk (.inr ⟨j, want, t, rfl, k, o, a⟩) rfl m (fun _ _ h => h) c (fun _ W _ h => p W h) h
theorem Hv (i : Nat) (c : ops[i]? = some ⟨some d, ins, ty, pos, af, some (j, want)⟩) (g : (ops[j]?).bind (·.dst) = some t) (a : E t = .bool want) (h : lD P E ⟨some d, ins, ty, pos, af, some (j, want)⟩ W fun v W' => S (listed.setIfInBounds i true) W' ∧ PX P n ops Q S fuel (listed.setIfInBounds i true) (lz E d v) W') (m : Region.ready .any ops listed = [i] := by kernel_rfl) (o : t < n := by decide) (k : d < n := by decide) : PX P n ops Q S (fuel + 1) listed E W := LF i c m (.inr ⟨j, want, t, rfl, g, o, a⟩) rfl k h
theorem Xn (i : Nat) (g : ops[i]? = some ⟨some d, ins, ty, pos, af, some (j, want)⟩) (k : (ops[j]?).bind (·.dst) = some t) (a : E t = .bool (!want)) (c : S (listed.setIfInBounds i true) W) (h : PX P n ops Q S fuel (listed.setIfInBounds i true) (lz E d undef) W) (hk : CS ops listed i = true := by kernel_rfl) (hm : ∀ l w, S (l.setIfInBounds i true) w → S l w := by exact fun _ _ h => h) (o : t < n := by decide) (m : d < n := by decide) : PX P n ops Q S (fuel + 1) listed E W := Sk i g hk rfl k o a rfl m hm c h
end
end Go.Proofs.YtbnbdigcbldfhaaGreat
