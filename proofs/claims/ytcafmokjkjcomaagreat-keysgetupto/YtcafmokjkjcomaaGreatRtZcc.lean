/- a part of a proof of KeysGet -/
import Derived.WalkKit
import Derived.WalkLawsBesides
import Derived.Maps.AppendAt
import Derived.OrdersHeld
import Derived.Laws.IdiomStrings
import Derived.Maps.RangeRun
import Derived.Lib.BytesEntry
import Derived.Lib.Bytealg
import Derived.Laws.Externs
import Derived.ChangeKeysEq
import Derived.Deep.AppendSrc
import Derived.Laws.MakeOwn
import Derived.Recover
import Derived.LaidEqlPtr
set_option linter.all false
namespace Go.Proofs.YtcafmokjkjcomaaGreat
open Go.RowKit
def aw := @Option.bind_some
def ay := @Bool.false_eq_true
def aA := @if_neg
def aB := @if_pos
def aC := @run_underlying
def aF := @List.mem_cons
def aH := @congrArg
def aI := @if_false
def aK := @List.length_append
def aM := @List.getElem?_eq_some_iff
def aN := @Result.andThen_ok
def aO := @if_true
def aQ := @Nat.le_refl
def aR := @List.append_assoc
def aS := @List.mem_map
def aT := @List.map_cons
def aU := @List.length_cons
def aV := @List.mem_singleton
def aX := @Bool.and_eq_true
def aY := @List.mem_append
def aZ := @beq_self_eq_true
def bc := @List.mem_append_left
def bh := @Sem.run_bind
def bi := @List.not_mem_nil
def bn := @List.nodup_append
def bo := @List.map_append
def bp := @Calls.mono
def bq := @Array.getD_eq_getD_getElem?
def bt := @Nat.mul_le_mul_right
def bw := @List.length_nil
def bx := @List.length_take
def bz := @Nat.add_mul
def bB := @Int.natCast_nonneg
def bD := @List.getElem?_eq_getElem
def bE := @List.drop_length
def bF := @List.cons_append
def bG := @Array.length_toList
def bH := @Array.getElem?_toList
def bI := @Nat.le_trans
def bJ := @List.flatten_cons
def bK := @Nat.lt_of_lt_of_le
def bL := @Array.getElem?_eq_some_iff
def bM := @List.cons.injEq
def bN := @Sem.run_pure
def bQ := @List.size_toArray
def bR := @List.mem_append_right
def bT := @Bool.not_true
def bU := @Nat.min_eq_left
def bV := @List.map_map
def bX := @List.length_eq_zero_iff
def bY := @Nat.lt_succ_self
def bZ := @List.mem_cons_of_mem
def cd := @List.take_of_length_le
def cg := @Oper.upon_value
def cj := @Oper.upon_enter
def ck := @List.nodup_cons
def cm := @List.append_nil
def cq := @Array.getElem?_modify
def cr := @List.getElem?_eq_none
def ct := @List.getElem?_drop
def cu := @Addr.add_lit
def cw := @List.eq_nil_of_length_eq_zero
def cx := @List.nil_append
def cy := @decide_true
def cz := @Nat.eq_zero_or_pos
def cA := @List.getElem?_take
def cC := @or_false
def cD := @List.Perm.refl
def cE := @decide_eq_true
def cH := @Bool.eq_iff_iff
def cI := @List.ext_getElem?
def cJ := @List.getElem?_map
def cK := @decide_eq_true_eq
def cL := @Int.toNat_natCast
def cM := @decide_false
def cN := @List.getElem?_take_of_lt
def cO := @ByteArray.toList_eq
def cQ := @Oper.upon_skip
def cW := @List.pairwise_cons
def cX := @List.length_map
def cY := @Bool.or_eq_true
def da := @Array.getElem?_append
def db := @List.getElem?_toArray
def de := @List.getElem?_set
def df := @of_decide_eq_true
def dg := @List.getElem?_append
def dh := @List.getElem?_append_right
def di := @Nat.zero_le
def dj := @List.getD_eq_getElem?_getD
def dp := @List.length_drop
def dv := @Nat.add_assoc
def dw := @Array.getElem?_replicate
def dx := @Bool.eq_false_or_eq_true
def dy := @wp_mono
def dz := @Option.map_some
def dB := @List.pairwise_mergeSort
def dD := @List.take_take
def dE := @List.pairwise_map
def dG := @Nat.div_lt_iff_lt_mul
def dH := @List.perm_append_comm
def dI := @List.length_mergeSort
def dJ := @List.perm_middle
def dK := @List.take_append
def dM := @Int.mul_le_mul_of_nonneg_right
def dO := @List.pairwise_append
def dQ := @Nat.pow_le_pow_right
def dR := @List.length_set
def dT := @List.Perm.nodup_iff
def dU := @run_callFunc_extern
def dV := @List.map_congr_left
def dW := @List.take_length_add_append
def dX := @List.perm_append_comm_assoc
def ec := @run_loadCells_list
def ed := @List.findIdx?_cons
def ee := @List.map_mergeSort
def ef := @UInt8.toNat_lt
def ei := @eq_iff_iff
def ej := @Bool.and_assoc
def ek := @UInt8.toNat_ofNat'
def en := @cell_of_row
def eo := @List.findIdx?_map
def ep := @Option.some.injEq
def eu := @UInt8.ofNat_toNat
def ev := @DataW.trod_struct
def ew := @ByteArray.ext
def eC := @Bool.not_eq_true
def eE := @Nat.add_comm
def eF := @Nat.zero_add
def eL := @beq_iff_eq
def eO := @Int.le_of_lt
def eP := @List.foldl_cons
def eS := @Nat.le_succ
def eT := @Nat.one_mul
def eU := @Int.le_refl
def eW := @mem_ready
def gx (E : Nat → Value) (d : Nat) (v : Value) : Nat → Value := fun t => if t = d then v else E t
def fc (E : Nat → Value) : Operand → Value
 | .tmp t => E t
 | .const v => v
 | .global g => .pointer (some ⟨g, 0, none⟩)
 | .func f => .func (.func f) #[] #[]
def Ag (n : Nat) (a : Act) (E : Nat → Value) : Prop := a.tmps.size = n ∧ a.defers = [] ∧ ∀ t, a.tmps.getD t undef = E t
section
variable {n : Nat} {a : Act} {E : Nat → Value}
theorem Ag.eval (h : Ag n a E) : a.eval = fc E := by
 funext x
 cases x with
 | tmp t => exact h.2.2 t
 | const v => rfl
 | global g => rfl
 | func f => rfl
theorem Ag.put (h : Ag n a E) {d : Nat} (i : d < n) (v : Value) : Ag n (a.put (some d) v) (gx E d v) := by
 refine ⟨by simp [Act.put, h.1], h.2.1, fun t => ?_⟩
 have g := h.2.2 t
 simp only [Act.put, gx]
 by_cases c : t = d
 ·subst c
  simp [h.1, i]
 ·have : ¬ d = t := fun e => c e.symm
  rw [aA c, ← g]
  simp [bq, this]
theorem Ag.lB (h : Ag n a E) (v : Value) : Ag n (a.put none v) E := h
theorem Ag.yield (h : Ag n a E) {ops : Array Oper} {j t : Nat} {b : Bool} (d : (ops[j]?).bind (·.dst) = some t) (i : t < n) (k : E t = .bool b) : yielded ops a.tmps j = some b := by
 have c := h.2.2 t
 have g : a.tmps[t]? = some (E t) := by
  rw [← c]
  simp [bq, h.1, i]
 simp [yielded, d, g, k]
end
abbrev gP := Exit → (Nat → Value) → World → Prop
def E0 : Nat → Value := fun _ => undef
def lift (n : Nat) (Q : gP) : Exit → Act → World → Prop
 | .panic c, a, w => a.defers = [] ∧ Q (.panic c) E0 w
 | .outgrown, _, _ => False
 | e, a, w => ∃ E, Ag n a E ∧ Q e E w
theorem vU {n : Nat} {Q : gP} {c : List PanicEntry} {a : Act} {d : Option Nat} {v : Value} {w : World} (h : lift n Q (.panic c) (a.put d v) w) : lift n Q (.panic c) a w := by
 cases d <;> exact h
def CW (P : Program) (n : Nat) (c : Code) (Q : gP) (E : Nat → Value) (W : World) : Prop := ∀ a, Ag n a E → c.wp P (lift n Q) a W
def LW (P : Program) (n : Nat) (ops : Array Oper) (Q : gP) (l : List Oper) (E : Nat → Value) (W : World) : Prop := ∀ a, Ag n a E → wpList P ops (lift n Q) l a W
def iE (K : (Nat → Value) → World → Prop) (Q : gP) : gP
 | .normal, E, W => K E W
 | e, E, W => Q e E W
def mj (id : Nat) (Q : gP) : gP
 | .exit j, E, W => if j = id then Q .normal E W else Q (.exit j) E W
 | e, E, W => Q e E W
section
variable {P : Program} {n : Nat} {Q : gP} {E : Nat → Value} {W : World} {c x y : Code} {ops : Array Oper} {rest : List Oper} {o : Oper}
theorem ua {Q' : gP} (h : CW P n c Q E W) (i : ∀ e E W, Q e E W → Q' e E W) : CW P n c Q' E W := fun a ha =>
 dy (h a ha) (fun e _ _ h => by
  cases e with
  | panic c => exact ⟨h.1, i _ _ _ h.2⟩
  | outgrown => exact h
  | _ => obtain ⟨E', d, g⟩ := h; exact ⟨E', d, i _ _ _ g⟩)
theorem fq (h : CW P n x (iE (fun E W => CW P n y Q E W) Q) E W) : CW P n (.seq x y) Q E W := fun a ha =>
 wp_seq (dy (h a ha) (fun e d i h => by
  cases e with
  | normal => obtain ⟨E', c, g⟩ := h; exact g d c
  | _ => exact h))
theorem gA (h : Q .normal E W) : CW P n .skip Q E W := fun _ ha => wp_skip ⟨E, ha, h⟩
theorem gd (h : Q .ret E W) : CW P n .ret Q E W := fun _ ha => wp_ret ⟨E, ha, h⟩
theorem mZ {id : Nat} (h : Q (.exit id) E W) : CW P n (.exit id) Q E W := fun _ ha => wp_exit ⟨E, ha, h⟩
theorem jd {id : Nat} (h : CW P n c (mj id Q) E W) : CW P n (.block id c) Q E W := fun a ha =>
 wp_block (dy (h a ha) (fun e k o h => by
  cases e with
  | exit j =>
   obtain ⟨E', d, g⟩ := h
   simp only [Exit.inBlock]
   simp only [mj] at g
   split at g
   ·rename_i i; rw [aB i]; exact ⟨E', d, g⟩
   ·rename_i i; rw [aA i]; exact ⟨E', d, g⟩
  | _ => exact h))
theorem xr {co : Operand} {b : Bool} (c : fc E co = .bool b) (g : b = true → CW P n x Q E W) (d : b = false → CW P n y Q E W) : CW P n (.cond co x y) Q E W := fun a ha => by
 refine wp_cond_split (t := b) (by rw [ha.eval]; exact c) (fun h => g h a ha) (fun h => d h a ha)
theorem nM {co : Operand} (a : fc E co = .bool true) (h : CW P n x Q E W) : CW P n (.cond co x y) Q E W := xr a (fun _ => h) (fun h => by cases h)
theorem kz {co : Operand} (a : fc E co = .bool false) (h : CW P n y Q E W) : CW P n (.cond co x y) Q E W := xr a (fun h => by cases h) (fun _ => h)
theorem fi {id : Nat} {l : List Oper} (h : LW P n l.toArray Q l E W) : CW P n (.region id l.toArray false) Q E W := fun a ha => wp_region_lit (h a ha)
theorem fL (h : Q .normal E W) : LW P n ops Q [] E W := fun _ ha => wpList_nil ⟨E, ha, h⟩
theorem uR {P : Program} {c : Code} {Q : Exit → Act → World → Prop} {a : Act} {w : World} (I : Nat → Act → World → Prop) (m : Nat) (u : I m a w) (round : ∀ m a w, I m a w → c.wp P (Exit.then (fun p q => ∃ y, y < m ∧ I y p q) Q) a w) : (Code.loop c).wp P Q a w := by
 intro b k cs
 have key : ∀ m a w, I m a w → ∃ e p q, Q e p q ∧ Arrives P (lone (b.at a (.code c :: .inLoop c :: k)) cs w) b k cs e p q := by
  intro m
  induction m using Nat.strongRecOn with
  | _ m ih =>
   intro a w A
   obtain ⟨e, g, h, j, d⟩ := round m a w A b (.inLoop c :: k) cs
   cases e with
   | normal =>
    obtain ⟨y, z, n⟩ := j
    obtain ⟨t, s, v, o, i⟩ := ih y z g h n
    exact ⟨t, s, v, o, .of_steps (Steps.trans d (.one step_inLoop)) i⟩
   | exit id => exact ⟨_, g, h, j, .pass (x := .inLoop c) rfl (fun _ _ => .inl (by simp)) d⟩
   | goto l => exact ⟨_, g, h, j, .pass (x := .inLoop c) rfl (fun _ _ => .inl (by simp)) d⟩
   | ret => exact ⟨_, g, h, j, .pass (x := .inLoop c) rfl (fun _ _ => .inl (by simp)) d⟩
   | panic D => exact ⟨_, g, h, j, .pass (x := .inLoop c) rfl (fun _ _ => .inl (by simp)) d⟩
   | outgrown => exact ⟨_, g, h, j, .pass (x := .inLoop c) rfl (fun _ _ => .inl (by simp)) d⟩
 obtain ⟨e, p, q, j, d⟩ := key m a w u
 exact ⟨e, p, q, j, .of_steps (.one step_loop) d⟩
theorem nc (I : Nat → (Nat → Value) → World → Prop) (m : Nat) (d : I m E W) (round : ∀ m E W, I m E W → CW P n c (iE (fun E' W' => ∃ g, g < m ∧ I g E' W') Q) E W) : CW P n (.loop c) Q E W := fun a ha =>
 uR (fun m a w => ∃ E, Ag n a E ∧ I m E w) m ⟨E, ha, d⟩ (fun m a w ⟨E, ha, o⟩ =>
  dy (round m E w o a ha) (fun e p q h => by
   cases e with
   | normal => obtain ⟨E', j, g, k, i⟩ := h; exact ⟨g, k, E', j, i⟩
   | _ => exact h))
def gT (n : Nat) (ops : Array Oper) (E : Nat → Value) (o : Oper) : Prop :=
 o.guard = none ∨ ∃ j want t, o.guard = some (j, want) ∧ (ops[j]?).bind (·.dst) = some t ∧ t < n ∧ E t = .bool want
theorem gT.of {a : Act} (h : gT n ops E o) (ha : Ag n a E) : Region.wanted o (yielded ops a.tmps) = true := by
 rcases h with h | ⟨j, want, t, d, g, i, c⟩
 ·simp [Region.wanted, h]
 ·simp [Region.wanted, d, ha.yield g i c]
theorem yn {d : Nat} {v : Value} {W' : World} (hw : gT n ops E o) (c : o.dst = some d) (g : d < n) (i : (execOp (fc E) o).run P W = .ok (.value v) W') (h : LW P n ops Q rest (gx E d v) W') : LW P n ops Q (o :: rest) E W := fun a ha => by
 unfold wpList
 rw [aB (hw.of ha)]
 refine .inl ?_
 unfold Oper.wp
 rw [ha.eval, i, cg, c]
 exact h _ (ha.put g v)
theorem zB {W' : World} (hw : gT n ops E o) (c : o.dst = none) (d : (execOp (fc E) o).run P W = .ok .skip W') (h : LW P n ops Q rest E W') : LW P n ops Q (o :: rest) E W := fun a ha => by
 unfold wpList
 rw [aB (hw.of ha)]
 refine .inl ?_
 unfold Oper.wp
 rw [ha.eval, d, cQ, c]
 exact h _ (ha.lB _)
theorem zp {f : FuncId} {args : Array Value} {d : Nat} (hw : gT n ops E o) (g : o.dst = some d) (j : d < n) (k : (execOp (fc E) o).run P W = .ok (.enter f args) W) (h : Calls P f args W fun e c => ∃ v, e = .returned v ∧ LW P n ops Q rest (gx E d v) c) : LW P n ops Q (o :: rest) E W := fun a ha => by
 unfold wpList
 rw [aB (hw.of ha)]
 refine .inl ?_
 unfold Oper.wp
 rw [ha.eval, k, cj]
 refine h.mono ?_
 rintro e c ⟨v, rfl, i⟩
 simp only [g]
 exact i _ (ha.put j v)
theorem BR {d j t : Nat} {want : Bool} (g : o.dst = some d) (p : d < n) (i : o.guard = some (j, want)) (k : (ops[j]?).bind (·.dst) = some t) (q : t < n) (c : E t = .bool (!want)) (h : LW P n ops Q rest (gx E d undef) W) : LW P n ops Q (o :: rest) E W := fun a ha => by
 unfold wpList
 have s := ha.yield k q c
 rw [aA (by simp [Region.wanted, i, s])]
 rw [g]
 exact h _ (ha.put p _)
end
variable {dd : Bool}
abbrev fz := Nat → Option Obj
def hp (W : World) : fz := fun b => W.heap[b]?
def kP (dd : Bool) (a b : Nat) : Prop := dd = true → a ≤ b
theorem kP.of {dd : Bool} {a b : Nat} (h : a ≤ b) : kP dd a b := fun _ => h
theorem kP.trans {dd : Bool} {a b c : Nat} (h : kP dd a b) (k : kP dd b c) : kP dd a c := fun e => bI (h e) (k e)
structure Ex (dd : Bool) (w W : World) : Prop where
 os : W.os = w.os
 tape : W.tape = w.tape
 output : W.output = w.output
 drawn : kP dd w.drawn W.drawn
 size : w.heap.size ≤ W.heap.size
 jZ : ∀ b, b < w.heap.size → W.heap[b]? = w.heap[b]?
theorem Ex.refl (w : World) : Ex dd w w := ⟨rfl, rfl, rfl, kP.of (aQ _), aQ _, fun _ _ => rfl⟩
theorem Ex.trans {a b c : World} (h : Ex dd a b) (k : Ex dd b c) : Ex dd a c :=
 ⟨k.os.trans h.os, k.tape.trans h.tape, k.output.trans h.output, kP.trans h.drawn k.drawn, bI h.size k.size, fun i hi => (k.jZ i (bK hi h.size)).trans (h.jZ i hi)⟩
theorem Ex.drew (w : World) : Ex dd w w.drew := ⟨rfl, rfl, rfl, kP.of (eS _), aQ _, fun _ _ => rfl⟩
theorem Ex.alloc (w : World) (o : Obj) : Ex dd w (w.alloc o) := ⟨rfl, rfl, rfl, kP.of (aQ _), by show w.heap.size ≤ (w.heap.push o).size; simp, fun k hk => Below.heap_alloc w o k hk⟩
theorem Ex.gW {w W : World} (h : Ex true w W) : Ex dd w W := ⟨h.os, h.tape, h.output, kP.of (h.drawn rfl), h.size, h.jZ⟩
def fA (μ μ' : fz) : Prop := ∀ b o, μ b = some o → μ' b = some o
theorem fA.refl (μ : fz) : fA μ μ := fun _ _ h => h
theorem fA.trans {a b c : fz} (h : fA a b) (k : fA b c) : fA a c := fun x o d => k x o (h x o d)
structure ST (dd : Bool) (F : Nat → Prop) (w W : World) (μ : fz) (L : List (Nat × Obj)) : Prop where
 os : W.os = w.os
 tape : W.tape = w.tape
 output : W.output = w.output
 drawn : kP dd w.drawn W.drawn
 size : w.heap.size ≤ W.heap.size
 jZ : ∀ b, b < w.heap.size → ¬ F b → W.heap[b]? = w.heap[b]?
 mem : ∀ b o, μ b = some o → W.heap[b]? = some o
 box : ∀ b o, (b, o) ∈ L → W.heap[b]? = some o ∧ μ b = none ∧ (w.heap.size ≤ b ∨ F b)
 nd : (L.map (·.1)).Nodup
def ga : Nat → Prop := fun _ => False
theorem ST.start (w : World) : ST dd ga w w (hp w) [] :=
 ⟨rfl, rfl, rfl, kP.of (aQ _), aQ _, fun _ _ _ => rfl, fun _ _ h => h, fun _ _ h => (by cases h), by simp⟩
section
variable {F : Nat → Prop} {w W W' : World} {μ μ' : fz} {L L' : List (Nat × Obj)}
theorem ST.ex (h : ST dd ga w W μ L) : Ex dd w W := ⟨h.os, h.tape, h.output, h.drawn, h.size, fun b a => h.jZ b a (fun x => x)⟩
theorem zL (W : World) (o : Obj) : (W.alloc o).heap[W.heap.size]? = some o := heap_alloc_new W o
theorem gO {W : World} {b : Nat} {o : Obj} (h : W.heap[b]? = some o) : b < W.heap.size := (bL.1 h).1
theorem ST.drew (h : ST dd F w W μ L) : ST dd F w W.drew μ L :=
 ⟨h.os, h.tape, h.output, kP.trans h.drawn (kP.of (eS _)), h.size, h.jZ, h.mem, h.box, h.nd⟩
theorem ST.ta (h : ST dd F w W μ L) {b : Nat} {o : Obj} (a : (b, o) ∈ L) : b < W.heap.size := gO (h.box b o a).1
theorem ST.alloc (h : ST dd F w W μ L) (o : Obj) : ST dd F w (W.alloc o) μ ((W.heap.size, o) :: L) := by
 refine ⟨h.os, h.tape, h.output, h.drawn, bI h.size (Ex.alloc (dd := true) W o).size, fun b a i => ?_, fun b c a => ?_, fun b c a => ?_, ?_⟩
 ·rw [(Ex.alloc (dd := true) W o).jZ b (bK a h.size)]; exact h.jZ b a i
 ·have := h.mem b c a
  rw [(Ex.alloc (dd := true) W o).jZ b (gO this)]; exact this
 ·rcases aF.1 a with e | a
  ·cases e
   refine ⟨zL W o, ?_, .inl h.size⟩
   cases hm : μ W.heap.size with
   | none => rfl
   | some x => have := gO (h.mem _ _ hm); omega
  ·obtain ⟨h1, d, g⟩ := h.box b c a
   exact ⟨by rw [(Ex.alloc (dd := true) W o).jZ b (gO h1)]; exact h1, d, g⟩
 ·simp only [aT, ck]
  refine ⟨fun hm => ?_, h.nd⟩
  obtain ⟨⟨b, c⟩, a, e⟩ := aS.1 hm
  have := h.ta a
  simp at e
  omega
theorem ST.put {A B : List (Nat × Obj)} {b : Nat} {o p : Obj} (h : ST dd F w W μ (A ++ (b, o) :: B)) (v : W'.os = W.os ∧ W'.tape = W.tape ∧ W'.output = W.output ∧ W.drawn ≤ W'.drawn ∧ W'.heap.size = W.heap.size) (d : ∀ k, k ≠ b → W'.heap[k]? = W.heap[k]?) (y : W'.heap[b]? = some p) : ST dd F w W' μ (A ++ (b, p) :: B) := by
 obtain ⟨h1, q, s, t, u⟩ := v
 have c := h.box b o (by simp)
 have a := h.nd
 simp only [bo, aT] at a
 have g : ∀ x o, (x, o) ∈ A → x ≠ b := fun x o j e => by
  subst e
  have := (bn.1 a).2.2 x (aS.2 ⟨_, j, rfl⟩) x (by simp)
  exact this rfl
 have i : ∀ x o, (x, o) ∈ B → x ≠ b := fun x o j e => by
  subst e
  have := (ck.1 (bn.1 a).2.1).1
  exact this (aS.2 ⟨_, j, rfl⟩)
 refine ⟨h1.trans h.os, q.trans h.tape, s.trans h.output, kP.trans h.drawn (kP.of t), by rw [u]; exact h.size, fun k hk n => ?_, fun k x hk => ?_, fun k x hk => ?_, by simpa using a⟩
 ·rw [d k (fun e => by subst e; rcases c.2.2 with h | h; omega; exact n h)]
  exact h.jZ k hk n
 ·rw [d k (fun e => by subst e; rw [c.2.1] at hk; cases hk)]
  exact h.mem k x hk
 ·rcases aY.1 hk with hk | hk
  ·rw [d k (g k x hk)]; exact h.box k x (by simp [hk])
  ·rcases aF.1 hk with e | hk
   ·cases e; exact ⟨y, c.2⟩
   ·rw [d k (i k x hk)]; exact h.box k x (by simp [hk])
def Lo (F : Nat → Prop) (w : World) (μ μ' : fz) : Prop := ∀ b, b < w.heap.size → ¬ F b → μ' b = μ b
theorem Lo.refl {F : Nat → Prop} {w : World} {μ : fz} : Lo F w μ μ := fun _ _ _ => rfl
theorem Lo.trans {F : Nat → Prop} {w : World} {a b c : fz} (h : Lo F w a b) (k : Lo F w b c) : Lo F w a c := fun x g d => (k x g d).trans (h x g d)
def grow (μ : fz) (W W' : World) : fz := fun b => if b < W.heap.size then μ b else W'.heap[b]?
theorem ST.rX (h : ST dd F w W μ L) {b : Nat} {o : Obj} (a : μ b = some o) : b < W.heap.size := gO (h.mem b o a)
theorem ST.call (h : ST dd F w W μ L) (c : Ex dd W W') : ST dd F w W' (grow μ W W') L := by
 refine ⟨c.os.trans h.os, c.tape.trans h.tape, c.output.trans h.output, kP.trans h.drawn c.drawn, bI h.size c.size, fun b a j => ?_, fun b o a => ?_, fun b o a => ?_, h.nd⟩
 ·rw [c.jZ b (bK a h.size)]; exact h.jZ b a j
 ·unfold grow at a
  split at a
  ·rename_i d; rw [c.jZ b d]; exact h.mem b o a
  ·exact a
 ·obtain ⟨h1, g, i⟩ := h.box b o a
  exact ⟨by rw [c.jZ b (gO h1)]; exact h1, by unfold grow; rw [aB (gO h1)]; exact g, i⟩
theorem ST.zc (h : ST dd F w W μ L) (W' : World) : fA μ (grow μ W W') := fun b o a => by
 unfold grow; rw [aB (h.rX a)]; exact a
theorem ST.gW (h : ST dd F w W μ' L) (c : fA μ μ') : ST dd F w W μ L :=
 ⟨h.os, h.tape, h.output, h.drawn, h.size, h.jZ, fun b o a => h.mem b o (c b o a), fun b o a => by
  obtain ⟨h1, d, g⟩ := h.box b o a
  refine ⟨h1, ?_, g⟩
  cases hm : μ b with
  | none => rfl
  | some x => (have := c b x hm; rw [d] at this; cases this), h.nd⟩
theorem ST.xL (h : ST dd F w W μ L) (a : Ex dd W W') : ST dd F w W' μ L := (h.call a).gW (h.zc W')
theorem ST.fO (h : ST dd F w W μ L) : fA μ (hp W) := h.mem
def wQ (μ : fz) (b : Nat) (o : Obj) : fz := fun k => if k = b then some o else μ k
theorem ST.rY {A B : List (Nat × Obj)} {b : Nat} {o : Obj} (h : ST dd F w W μ (A ++ (b, o) :: B)) : ST dd F w W (wQ μ b o) (A ++ B) := by
 have d := h.box b o (by simp)
 have a := h.nd
 simp only [bo, aT] at a
 have i : ∀ x y, (x, y) ∈ A ++ B → x ≠ b := fun x y c e => by
  subst e
  rcases aY.1 c with c | c
  ·exact (bn.1 a).2.2 x (aS.2 ⟨_, c, rfl⟩) x (by simp) rfl
  ·exact (ck.1 (bn.1 a).2.1).1 (aS.2 ⟨_, c, rfl⟩)
 refine ⟨h.os, h.tape, h.output, h.drawn, h.size, h.jZ, fun k x hk => ?_, fun k x hk => ?_, ?_⟩
 ·unfold wQ at hk
  split at hk
  ·rename_i e; cases hk; rw [e]; exact d.1
  ·exact h.mem k x hk
 ·have g : (k, x) ∈ A ++ (b, o) :: B := by
   rcases aY.1 hk with h | h <;> simp [h]
  obtain ⟨h1, j, n⟩ := h.box k x g
  exact ⟨h1, by unfold wQ; rw [aA (i k x hk)]; exact j, n⟩
 ·have : (A ++ B).Sublist (A ++ (b, o) :: B) := List.Sublist.append (List.Sublist.refl A) (List.sublist_cons_self _ _)
  exact List.Nodup.sublist (this.map _) h.nd
theorem ST.rW {A B : List (Nat × Obj)} {b : Nat} {o : Obj} (h : ST dd F w W μ (A ++ (b, o) :: B)) : fA μ (wQ μ b o) := fun k x hk => by
 unfold wQ
 split
 ·rename_i e; subst e; rw [(h.box k o (by simp)).2.1] at hk; cases hk
 ·exact hk
theorem ST.vS {A B : List (Nat × Obj)} {b : Nat} {o : Obj} (h : ST dd F w W μ (A ++ (b, o) :: B)) : Lo F w μ (wQ μ b o) := fun k hk c => by
 refine aA (fun e => ?_)
 subst e
 rcases (h.box k o (by simp)).2.2 with a | a
 ·omega
 ·exact c a
theorem ST.drop {A B : List (Nat × Obj)} {p : Nat × Obj} (h : ST dd F w W μ (A ++ p :: B)) : ST dd F w W μ (A ++ B) :=
 (h.rY (b := p.1) (o := p.2)).gW h.rW
end
abbrev jT (α : Type) := fz → List Value → α → Prop
def Sl {α : Type} (R : jT α) (k : Nat) (μ : fz) (v : Value) (l : List α) : Prop :=
 ∃ A c, v = .slice A l.length c ∧ l.length ≤ c ∧ c ≤ maxLen ∧ (0 < l.length → ∃ b off cs T fr, A = some ⟨b, off, none⟩ ∧ μ b = some (.cells cs T fr) ∧
  ∀ i x, l[i]? = some x → ∃ ys, ys.length = k ∧ R μ ys x ∧ ∀ j y, ys[j]? = some y → cs[off + i * k + j]? = some y)
def At (μ : fz) (v : Value) (ys : List Value) : Prop :=
 ∃ b off cs T fr, v = .pointer (some ⟨b, off, none⟩) ∧ μ b = some (.cells cs T fr) ∧ ∀ j y, ys[j]? = some y → cs[off + j]? = some y
def Fr (B : Nat) (v : Value) : Prop := ∀ b, v.ownBlock = some b → B ≤ b
def uX {α : Type} (R : jT α) : Prop := ∀ μ μ' ys x, fA μ μ' → R μ ys x → R μ' ys x
def Pl {α : Type} (enc : α → List Value) : jT α := fun _ ys x => ys = enc x
theorem Pl.mono {α : Type} (enc : α → List Value) : uX (Pl enc) := fun _ _ _ _ _ h => h
theorem Sl.mono {α : Type} {R : jT α} (u : uX R) {k : Nat} {μ μ' : fz} {v : Value} {l : List α} (h : Sl R k μ v l) (d : fA μ μ') : Sl R k μ' v l := by
 obtain ⟨A, c, h1, g, j, n⟩ := h
 refine ⟨A, c, h1, g, j, fun w => ?_⟩
 obtain ⟨b, off, cs, T, fr, o, p, q⟩ := n w
 exact ⟨b, off, cs, T, fr, o, d _ _ p, fun i x y => let ⟨ys, s, t, a⟩ := q i x y; ⟨ys, s, u _ _ _ _ d t, a⟩⟩
theorem At.mono {μ μ' : fz} {v : Value} {ys : List Value} (h : At μ v ys) (d : fA μ μ') : At μ' v ys := by
 obtain ⟨b, off, cs, T, fr, h1, a, c⟩ := h
 exact ⟨b, off, cs, T, fr, h1, d _ _ a, c⟩
theorem Sl.len {α : Type} {R : jT α} {k : Nat} {μ : fz} {v : Value} {l : List α} (h : Sl R k μ v l) : l.length ≤ 9223372036854775807 := by
 obtain ⟨A, c, h1, d, a, g⟩ := h
 unfold maxLen at a
 omega
theorem Sl.nil {α : Type} (R : jT α) (k : Nat) (μ : fz) : Sl R k μ (.slice none 0 0) [] := ⟨none, 0, rfl, aQ _, by decide, fun h => absurd h (by simp)⟩
theorem Fr.mono {B B' : Nat} {v : Value} (h : Fr B v) (a : B' ≤ B) : Fr B' v := fun b c => bI a (h b c)
theorem Fr.nil (B : Nat) : Fr B (.slice none 0 0) := fun b a => by simp [Value.ownBlock] at a
end Go.Proofs.YtcafmokjkjcomaaGreat
namespace Go.Proofs.YtcafmokjkjcomaaGreat
open Go.RowKit
variable {dd : Bool}
section
variable {P : Program} {n : Nat} {Q : gP} {E : Nat → Value} {W : World} {ops : Array Oper} {rest : List Oper}
 {d : Option Nat} {ty : TypeId} {pos : String} {af : Array Edge} {g : Option (Nat × Bool)}
 {F : Nat → Prop} {w : World} {μ : fz} {L : List (Nat × Obj)}
def fQ (P : Program) (E : Nat → Value) (o : Oper) (W : World) (v : Value) (W' : World) : Prop := (execOp (fc E) o).run P W = .ok (.value v) W'
theorem uq {o : Oper} {dd : Nat} {v : Value} (hw : gT n ops E o) (a : o.dst = some dd) (c : dd < n) (d : fQ P E o W v W) (h : LW P n ops Q rest (gx E dd v) W) : LW P n ops Q (o :: rest) E W := yn hw a c d h
theorem fp {x : Operand} {v : Value} (a : fc E x = v) : fQ P E ⟨d, .move x, ty, pos, af, g⟩ W v W := by rw [← a]; rfl
theorem fT {x : Operand} {v : Value} (a : fc E x = v) : fQ P E ⟨d, .assign x, ty, pos, af, g⟩ W v W := by rw [← a]; rfl
theorem fF {c x y : Operand} {v : Value} (a : fc E c = .bool true) (h : fc E x = v) : fQ P E ⟨d, .pick c x y, ty, pos, af, g⟩ W v W := by
 show (do pure (.value (if ← asBool (fc E c) then fc E x else fc E y)) : Sem Next).run P W = _
 rw [a, ← h]; simp [asBool]
theorem fE {c x y : Operand} {v : Value} (a : fc E c = .bool false) (h : fc E y = v) : fQ P E ⟨d, .pick c x y, ty, pos, af, g⟩ W v W := by
 show (do pure (.value (if ← asBool (fc E c) then fc E x else fc E y)) : Sem Next).run P W = _
 rw [a, ← h]; simp [asBool]
theorem iV {x : Operand} {i : Nat} {vs : Array Value} {v : Value} (c : fc E x = .tuple vs) (a : vs[i]? = some v) : fQ P E ⟨d, .extract x i, ty, pos, af, g⟩ W v W := by
 show (do pure (.value (← Instr.extract (fc E x) i)) : Sem Next).run P W = _
 rw [c]; simp [Instr.extract, a]
theorem kN {u : TypeId} {x : Operand} {b : Bool} (a : fc E x = .bool b) : fQ P E ⟨d, .unOp .not u x, ty, pos, af, g⟩ W (.bool !b) W := by
 show (do pure (.value (← Op.unary .not (fc E x))) : Sem Next).run P W = _
 rw [a]; simp [Op.unary]
theorem xE {fn : Fn} {first caps : Array Operand} {v : Value} (a : .func fn (first.map (fc E)) (caps.map (fc E)) = v) : fQ P E ⟨d, .makeFunc fn first caps, ty, pos, af, g⟩ W v W := by
 show (do pure (.value (← Instr.makeFunc fn (first.map (fc E)) (caps.map (fc E)))) : Sem Next).run P W = _
 rw [← a]; simp [Instr.makeFunc]
def uW (k : IntKind) (op : BinOp) (a b : Int) : Option Value :=
 match op with
 | .eql => some (.bool (a == b))
 | .neq => some (.bool (a != b))
 | .lss => some (.bool (decide (a < b)))
 | .leq => some (.bool (decide (a ≤ b)))
 | .gtr => some (.bool (decide (a > b)))
 | .geq => some (.bool (decide (a ≥ b)))
 | .add => some (.int k (k.wrap (a + b)))
 | .sub => some (.int k (k.wrap (a - b)))
 | .mul => some (.int k (k.wrap (a * b)))
 | _ => none
theorem gl {op : BinOp} {tx tv : TypeId} {x y : Operand} {k : IntKind} {a b : Int} {v : Value} (h : fc E x = .int k a) (i : fc E y = .int k b) (c : uW k op a b = some v) :
  fQ P E ⟨d, .binOp op tx x y tv, ty, pos, af, g⟩ W v W := by
 show (do let r ← (do eqGuard op tx x y (fc E x) (fc E y); binOp op tx (fc E x) (fc E y)); pure (.value r) : Sem Next).run P W = _
 rw [h, i]
 cases op <;> simp [uW] at c <;> subst c <;> simp [eqGuard, binOp, Op.intCmp, Op.intArith]
def Aj (op : BinOp) (a b : ByteArray) : Option Value :=
 match op with
 | .eql => some (.bool (a.toList == b.toList))
 | .neq => some (.bool !(a.toList == b.toList))
 | .lss => some (.bool (Op.bytesLess a.toList b.toList))
 | .leq => some (.bool (Op.bytesLess a.toList b.toList || a.toList == b.toList))
 | .gtr => some (.bool !(Op.bytesLess a.toList b.toList || a.toList == b.toList))
 | .geq => some (.bool !(Op.bytesLess a.toList b.toList))
 | _ => none
def mw (a b : ByteArray) : Option ByteArray := if ((a.size + b.size : Nat) : Int) > IntKind.i64.max then none else some (a ++ b)
theorem lZ {op : BinOp} {tx tv : TypeId} {x y : Operand} {a b : ByteArray} {v : Value} (h : fc E x = .string a) (i : fc E y = .string b) (c : Aj op a b = some v) :
  fQ P E ⟨d, .binOp op tx x y tv, ty, pos, af, g⟩ W v W := by
 show (do let r ← (do eqGuard op tx x y (fc E x) (fc E y); binOp op tx (fc E x) (fc E y)); pure (.value r) : Sem Next).run P W = _
 rw [h, i]
 cases op <;> simp [Aj] at c <;> subst c <;> simp [eqGuard, binOp, Op.stringOp]
theorem oD {tx tv : TypeId} {x y : Operand} {a b r : ByteArray} (h : fc E x = .string a) (i : fc E y = .string b) (c : mw a b = some r) :
  fQ P E ⟨d, .binOp .add tx x y tv, ty, pos, af, g⟩ W (.string r) W := by
 show (do let r ← (do eqGuard .add tx x y (fc E x) (fc E y); binOp .add tx (fc E x) (fc E y)); pure (.value r) : Sem Next).run P W = _
 rw [h, i]
 simp only [mw] at c
 split at c
 ·cases c
 ·rename_i hle; cases c; simp [eqGuard, binOp, Op.stringOp]; simpa using hle
theorem zz {op : BinOp} {tx tv : TypeId} {x y : Operand} {a b : Bool} (h : P.underlying tx = some .bool) (i : fc E x = .bool a) (j : fc E y = .bool b) (c : op = .neq) :
  fQ P E ⟨d, .binOp op tx x y tv, ty, pos, af, g⟩ W (.bool (a != b)) W := by
 subst c
 show (do let r ← (do eqGuard .neq tx x y (fc E x) (fc E y); binOp .neq tx (fc E x) (fc E y)); pure (.value r) : Sem Next).run P W = _
 rw [i, j]
 simp [eqGuard, binOp, Op.equal, Op.maxDepth, run_equalIn_bool' W 9999 tx a b h, bne]
theorem qK {tx tv : TypeId} {x y : Operand} {a b : Array Value} {r : Bool} (i : fc E x = .agg a) (j : fc E y = .agg b) (c : ∀ W, (eqGuard .eql tx x y (.agg a) (.agg b)).run P W = .ok () W) (h : ∀ W, (binOp .eql tx (.agg a) (.agg b)).run P W = .ok (.bool r) W) : fQ P E ⟨d, .binOp .eql tx x y tv, ty, pos, af, g⟩ W (.bool r) W := by
 show (do let r ← (do eqGuard .eql tx x y (fc E x) (fc E y); binOp .eql tx (fc E x) (fc E y)); pure (.value r) : Sem Next).run P W = _
 rw [i, j]; simp [c W, h W]
theorem BZ {tx tv : TypeId} {x y : Operand} {a b : Array Value} {r : Bool} (i : fc E x = .agg a) (j : fc E y = .agg b) (c : ∀ W, (eqGuard .neq tx x y (.agg a) (.agg b)).run P W = .ok () W) (h : ∀ W, (binOp .neq tx (.agg a) (.agg b)).run P W = .ok (.bool r) W) : fQ P E ⟨d, .binOp .neq tx x y tv, ty, pos, af, g⟩ W (.bool r) W := by
 show (do let r ← (do eqGuard .neq tx x y (fc E x) (fc E y); binOp .neq tx (fc E x) (fc E y)); pure (.value r) : Sem Next).run P W = _
 rw [i, j]; simp [c W, h W]
theorem pI {t e : TypeId} (dd : Nat) (c : P.underlying t = some (.pointer e)) (a : Option Addr) (W : World) : (Op.equalIn (dd + 1) t (.pointer a) (.pointer none)).run P W = .ok a.isNone W := by
 cases a <;> simp [Op.equalIn, aC c]
theorem jL {tx tv e : TypeId} {x y : Operand} {a : Option Addr} (h : P.underlying tx = some (.pointer e)) (i : fc E x = .pointer a) (j : fc E y = .pointer none) :
  fQ P E ⟨d, .binOp .eql tx x y tv, ty, pos, af, g⟩ W (.bool a.isNone) W := by
 show (do let r ← (do eqGuard .eql tx x y (fc E x) (fc E y); binOp .eql tx (fc E x) (fc E y)); pure (.value r) : Sem Next).run P W = _
 rw [i, j]
 have c := pI 9999 h a W
 simp [eqGuard, binOp, Op.equal, show Op.maxDepth = 9999 + 1 from rfl, c]
theorem qN {tx tv e : TypeId} {x y : Operand} {a : Option Addr} (h : P.underlying tx = some (.pointer e)) (i : fc E x = .pointer a) (j : fc E y = .pointer none) :
  fQ P E ⟨d, .binOp .neq tx x y tv, ty, pos, af, g⟩ W (.bool !a.isNone) W := by
 show (do let r ← (do eqGuard .neq tx x y (fc E x) (fc E y); binOp .neq tx (fc E x) (fc E y)); pure (.value r) : Sem Next).run P W = _
 rw [i, j]
 have c := pI 9999 h a W
 simp [eqGuard, binOp, Op.equal, show Op.maxDepth = 9999 + 1 from rfl, c]
theorem iF {x : Operand} {t : TypeId} {s : ByteArray} (a : P.underlying t = some .string) (c : fc E x = .string s) : fQ P E ⟨d, .call ⟨.builtin .len, #[x], #[t]⟩, ty, pos, af, g⟩ W (.int .i64 s.size) W := by
 show (do let d ← resolve (fc E) ⟨.builtin .len, #[x], #[t]⟩ ty; invoke d.target d.args : Sem Next).run P W = _
 simp [resolve, invoke, builtin, Builtin.len_, aC a, c, goInt]
theorem uk {x : Operand} {t e : TypeId} {A : Option Addr} {l c : Nat} (a : P.underlying t = some (.slice e)) (h : fc E x = .slice A l c) : fQ P E ⟨d, .call ⟨.builtin .len, #[x], #[t]⟩, ty, pos, af, g⟩ W (.int .i64 l) W := by
 show (do let d ← resolve (fc E) ⟨.builtin .len, #[x], #[t]⟩ ty; invoke d.target d.args : Sem Next).run P W = _
 simp [resolve, invoke, builtin, Builtin.len_, aC a, h, goInt]
theorem iB {α : Type} {R : jT α} {k : Nat} {m : fz} {x : Operand} {t e : TypeId} {v : Value} {l : List α} (h : P.underlying t = some (.slice e)) (i : fc E x = v) (a : Sl R k m v l) : fQ P E ⟨d, .call ⟨.builtin .len, #[x], #[t]⟩, ty, pos, af, g⟩ W (.int .i64 l.length) W := by
 obtain ⟨A, c, rfl, _⟩ := a
 exact uk h i
theorem oh {t : TypeId} {x a : Operand} {o : IntKind} {s : ByteArray} {i : Int} {c : UInt8} (k : P.underlying t = some .string) (n : fc E x = .string s) (hi : fc E a = .int o i) (h : 0 ≤ i) (j : s[i.toNat]? = some c) :
  fQ P E ⟨d, .index t x a, ty, pos, af, g⟩ W (.int .u8 c.toNat) W := by
 show (do pure (.value (← Instr.index t (fc E x) (fc E a))) : Sem Next).run P W = _
 rw [n, hi]
 simp [Instr.index, asIntOf, aC k, h, j]
def gQ (P : Program) (t : TypeId) (f off : Nat) : Prop := ∀ b o w, (Instr.fieldAt t (.pointer (some ⟨b, o, none⟩)) f).run P w = .ok (.pointer (some ⟨b, o + off, none⟩)) w
theorem fh {t : TypeId} {x : Operand} {f off b o : Nat} (a : gQ P t f off) (c : fc E x = .pointer (some ⟨b, o, none⟩)) : fQ P E ⟨d, .fieldAddr t x f, ty, pos, af, g⟩ W (.pointer (some ⟨b, o + off, none⟩)) W := by
 show (do pure (.value (← Instr.fieldAt t (fc E x) f)) : Sem Next).run P W = _
 rw [c]; simp [a b o W]
theorem mP {t : TypeId} {x : Operand} {f off : Nat} {v : Value} {ys : List Value} (a : List Value) (k : gQ P t f off) (q : fc E x = v) (p : At μ v ys) (s : (ys.drop off).take a.length = a) :
  ∃ h, At μ h a ∧ ∀ W, fQ P E ⟨d, .fieldAddr t x f, ty, pos, af, g⟩ W h W := by
 obtain ⟨b, o, cs, T, fr, rfl, h1, i⟩ := p
 refine ⟨_, ⟨b, o + off, cs, T, fr, rfl, h1, fun j y c => ?_⟩, fun W => fh k q⟩
 have n : j < a.length := (aM.1 c).1
 have := i (off + j) y (by
  rw [← s, cN n, ct] at c
  exact c)
 rw [dv]
 exact this
theorem ig {x : Operand} {a : Addr} (c : fc E x = .pointer (some a)) : fQ P E ⟨d, .nilCheck x, ty, pos, af, g⟩ W (.pointer (some a)) W := by
 unfold fQ execOp
 simp [c]
theorem tW {α : Type} {R : jT α} {k : Nat} {t e : TypeId} {x h : Operand} {M : IntKind} {v : Value} {i : Int} {l : List α} {x0 : α} (J : P.underlying t = some (.slice e)) (he : ∀ w, (sizeOf e).run P w = .ok k w) (K : fc E x = v) (hi : fc E h = .int M i) (I : Sl R k μ v l) (o : 0 ≤ i) (n : l[i.toNat]? = some x0) :
  ∃ p ys, ys.length = k ∧ R μ ys x0 ∧ At μ p ys ∧ ∀ W, fQ P E ⟨d, .indexAddr t x h, ty, pos, af, g⟩ W p W := by
 obtain ⟨A, c, rfl, O, Q, q⟩ := I
 have G : i.toNat < l.length := (aM.1 n).1
 obtain ⟨b, off, cs, T, fr, rfl, s, u⟩ := q (by omega)
 obtain ⟨ys, z, D, a⟩ := u i.toNat x0 n
 refine ⟨.pointer (some ⟨b, off + i.toNat * k, none⟩), ys, z, D, ⟨b, off + i.toNat * k, cs, T, fr, rfl, s, fun j y L => a j y L⟩, fun W => ?_⟩
 show (do pure (.value (← Instr.indexAt t (fc E x) (fc E h))) : Sem Next).run P W = _
 rw [K, hi]
 have F : 0 ≤ i ∧ i < (l.length : Int) := ⟨o, by omega⟩
 simp [Instr.indexAt, asIntOf, aC J, he W, F, cu]
theorem ox {α : Type} {enc : α → List Value} {k : Nat} {t e : TypeId} {x a : Operand} {y : IntKind} {v : Value} {i : Int} {l : List α} {x0 : α} (s : P.underlying t = some (.slice e)) (he : ∀ w, (sizeOf e).run P w = .ok k w) (u : fc E x = v) (hi : fc E a = .int y i) (q : Sl (Pl enc) k μ v l) (c : 0 ≤ i) (o : l[i.toNat]? = some x0) :
  ∃ p, At μ p (enc x0) ∧ ∀ W, fQ P E ⟨d, .indexAddr t x a, ty, pos, af, g⟩ W p W := by
 obtain ⟨p, ys, h1, h, j, n⟩ := tW (d := d) (ty := ty) (pos := pos) (af := af) (g := g) s he u hi q c o
 cases h
 exact ⟨p, j, n⟩
theorem uO (P : Program) {W : World} {b off : Nat} {cs : Array Value} {T : TypeId} {fr : Nat × Nat} (a : W.heap[b]? = some (.cells cs T fr)) (ys : List Value) (d : ∀ j y, ys[j]? = some y → cs[off + j]? = some y) :
  (loadCells ⟨b, off, none⟩ ys.length).run P W = .ok ys.toArray W :=
 ec W ⟨b, off, none⟩ ys (fun j v c => by rw [cu, en W b (off + j) cs T fr a]; exact d j v c)
theorem pY {W : World} {t : TypeId} {b off : Nat} {cs : Array Value} {T : TypeId} {fr : Nat × Nat} (a : ∀ w, (isAgg t).run P w = .ok true w) (ys : List Value) (c : ∀ w, (sizeOf t).run P w = .ok ys.length w) (d : W.heap[b]? = some (.cells cs T fr)) (g : ∀ j y, ys[j]? = some y → cs[off + j]? = some y) : (Instr.loadAt t (.pointer (some ⟨b, off, none⟩))).run P W = .ok (.agg ys.toArray) W := by
 simp [Instr.loadAt, Instr.sureAddr, loadVar, a W, c W, uO P d ys g]
theorem sx {W : World} {t : TypeId} {b off : Nat} {cs : Array Value} {T : TypeId} {fr : Nat × Nat} (a : ∀ w, (isAgg t).run P w = .ok false w) {y : Value} (c : W.heap[b]? = some (.cells cs T fr)) (g : cs[off]? = some y) : (Instr.loadAt t (.pointer (some ⟨b, off, none⟩))).run P W = .ok y W := by
 have d : W.cell? ⟨b, off, none⟩ = some y := by rw [en W b off cs T fr c]; exact g
 simp [Instr.loadAt, Instr.sureAddr, loadVar, a W, load, Sem.run, d]
theorem fj {t : TypeId} {x : Operand} {a v : Value} (h : fc E x = a) (c : (Instr.loadAt t a).run P W = .ok v W) : fQ P E ⟨d, .load t x, ty, pos, af, g⟩ W v W := by
 show (do pure (.value (← Instr.loadAt t (fc E x))) : Sem Next).run P W = _
 rw [h]; simp [c]
def lJ (μ : fz) (A : List (Nat × Obj)) (W : World) : Prop := (∀ b o, μ b = some o → W.heap[b]? = some o) ∧ ∀ b o, (b, o) ∈ A → W.heap[b]? = some o
theorem ST.has (h : ST dd F w W μ L) : lJ μ L W := ⟨h.mem, fun b o a => (h.box b o a).1⟩
theorem lJ.sub {μ' : fz} {A A' : List (Nat × Obj)} (h : lJ μ A W) (d : fA μ' μ) (c : ∀ p, p ∈ A' → p ∈ A) : lJ μ' A' W := ⟨fun b o a => h.1 b o (d b o a), fun b o a => h.2 b o (c _ a)⟩
theorem oC {A : List (Nat × Obj)} (hH : lJ μ A W) {t : TypeId} {p : Value} {ys : List Value} (hp : At μ p ys) (c : ∀ w, (isAgg t).run P w = .ok true w) (d : ∀ w, (sizeOf t).run P w = .ok ys.length w) :
  (Instr.loadAt t p).run P W = .ok (.agg ys.toArray) W := by
 obtain ⟨b, off, cs, T, fr, rfl, h1, a⟩ := hp
 exact pY c ys d (hH.1 _ _ h1) a
theorem kh {A : List (Nat × Obj)} (hH : lJ μ A W) {t : TypeId} {p y : Value} (hp : At μ p [y]) (c : ∀ w, (isAgg t).run P w = .ok false w) :
  (Instr.loadAt t p).run P W = .ok y W := by
 obtain ⟨b, off, cs, T, fr, rfl, h1, a⟩ := hp
 exact sx c (hH.1 _ _ h1) (a 0 y rfl)
theorem fy {A : List (Nat × Obj)} (hH : lJ μ A W) {t : TypeId} {b off : Nat} {cs : Array Value} {T : TypeId} {fr : Nat × Nat} (g : (b, Obj.cells cs T fr) ∈ A) (ys : List Value) (i : (cs.toList.drop off).take ys.length = ys) (d : ∀ w, (isAgg t).run P w = .ok true w) (h : ∀ w, (sizeOf t).run P w = .ok ys.length w) : (Instr.loadAt t (.pointer (some ⟨b, off, none⟩))).run P W = .ok (.agg ys.toArray) W :=
 pY d ys h (hH.2 _ _ g) (fun j y a => by
  have c : j < ys.length := (aM.1 a).1
  rw [← i, cN c, ct] at a
  simpa using a)
theorem fG {A : List (Nat × Obj)} (hH : lJ μ A W) {t : TypeId} {b off : Nat} {cs : Array Value} {T : TypeId} {fr : Nat × Nat} (c : (b, Obj.cells cs T fr) ∈ A) {y : Value} (d : cs[off]? = some y) (a : ∀ w, (isAgg t).run P w = .ok false w) : (Instr.loadAt t (.pointer (some ⟨b, off, none⟩))).run P W = .ok y W :=
 sx a (hH.2 _ _ c) d
theorem gw {t : TypeId} {a : Array (Nat × Operand)} {qs : Array (Nat × Value)} {v : Value} (c : a.map (fun (i, x) => (i, fc E x)) = qs) (h : ∀ W, (Instr.build t qs).run P W = .ok v W) : fQ P E ⟨d, .build t a, ty, pos, af, g⟩ W v W := by
 show (do pure (.value (← Instr.build t (a.map fun (i, x) => (i, fc E x)))) : Sem Next).run P W = _
 rw [c]; simp [h W]
theorem fZ {t : TypeId} {z cs : Array Value} {a : Array Field} {qs : Array (Nat × Value)} {pl : Array (Nat × Nat)} (g : ∀ w, (zeroValue t).run P w = .ok (.agg z) w) (d : P.underlying t = some (.struct a)) (hp : ∀ w, (a.mapM fun f => do pure (f.offset, ← sizeOf f.type) : Sem (Array (Nat × Nat))).run P w = .ok pl w) (c : Instr.fill (pl[·]?) z qs.toList = some cs) (W : World) : (Instr.build t qs).run P W = .ok (.agg cs) W := by
 simp only [Instr.build, bh, g W, aN, aC d, Value.cells]
 rw [hp W]
 simp only [aN, c, bN]
end
theorem rE {α : Type} : ∀ (a : Ask α) (w : World), w.drawn ≤ (w.ask a).2.drawn
 | .done a, w => by simp [World.ask]
 | .ask c range k, w => by
  unfold World.ask
  dsimp only
  split
  ·exact rE (k 0) w
  ·refine bI (eS w.drawn) ?_
   exact rE _ { w with drawn := w.drawn + 1 }
theorem yU (w : World) (c : Sys) : w.drawn ≤ (w.sys c).2.drawn := by
 have h := rE (Kernel.perform c w.os) w
 unfold World.sys
 generalize w.ask (Kernel.perform c w.os) = r at *
 obtain ⟨⟨a, d⟩, g⟩ := r
 cases a <;> simp at h ⊢ <;> exact h
theorem tD {p : Program} {w c : World} {a : Addr} {u : TypeId} {k : Addr} {v : Value} {b : Bool} {l : List Addr} (h : w.viewStore p a u k v b = .ok (c, l)) : c.drawn = w.drawn := by
 unfold World.viewStore at h
 simp only [bind, Except.bind, pure, Except.pure] at h
 split at h
 ·cases h
 ·split at h
  ·cases h
  ·split at h
   ·split at h
    ·cases h
    ·split at h
     ·cases h
     ·cases h; rfl
   ·cases h
theorem uj {p : Program} {w c : World} {a : Addr} {v : Value} {b : Bool} {l : List Addr} (h : w.farStore p a v b = .ok (c, l)) : c.drawn = w.drawn := by
 unfold World.farStore at h
 split at h
 ·split at h
  ·rename_i h1; cases h; exact tD h1
  ·cases h
 ·cases h
theorem ir {α : Type} {p : Program} : ∀ (s : Sem α) (w d : World) (a : α), s.run p w = .ok a d → w.drawn ≤ d.drawn
 | .pure a, w, d, b, h => by simp only [Sem.run] at h; cases h; exact aQ _
 | .load m a k, w, d, b, h => by
  simp only [Sem.run] at h
  split at h
  ·exact ir _ _ _ _ h
  ·split at h
   ·exact ir _ _ _ _ h
   ·cases h
 | .store m a v k, w, d, b, h => by
  have key : ∀ (r : Result α) i, r = .ok b d → (r = (match w.cell? a with
    | some _ => if w.frozen? a then .halt i w else k.run p (w.setCell a v)
    | none => match w.farStore p a v (m == .atomic) with
     | .ok (w, _) => k.run p w
     | .error h => .halt h w)) → w.drawn ≤ d.drawn := by
   intro r i j h
   rw [j] at h
   split at h
   ·split at h
    ·cases h
    ·have := ir k _ _ _ h.symm
     simpa [World.setCell] using this
   ·split at h
    ·rename_i h1
     have g := ir k _ _ _ h.symm
     rw [uj h1] at g
     exact g
    ·cases h
  cases v with
  | agg cs => simp only [Sem.run] at h; cases h
  | tuple cs => simp only [Sem.run] at h; cases h
  | _ => exact key _ _ h (by simp only [Sem.run]; rfl)
 | .new o k, w, d, b, h => by simp only [Sem.run] at h; have := ir (k _) _ _ _ h; exact this
 | .shape r k, w, d, b, h => by simp only [Sem.run] at h; exact ir _ _ _ _ h
 | .freeze a n k, w, d, b, h => by
  simp only [Sem.run] at h
  have := ir k _ _ _ h
  unfold World.freeze at this
  split at this <;> exact this
 | .frozen a k, w, d, b, h => by simp only [Sem.run] at h; exact ir _ _ _ _ h
 | .getObj r k, w, d, b, h => by
  simp only [Sem.run] at h
  split at h <;> try (cases h; done)
  exact ir _ _ _ _ h
 | .setObj r o k, w, d, b, h => by
  simp only [Sem.run] at h
  split at h <;> try (cases h; done)
  have := ir k _ _ _ h
  exact this
 | .choose q k, w, d, b, h => by
  simp only [Sem.run] at h
  split at h
  ·exact ir _ _ _ _ h
  ·exact bI (eS _) (ir _ _ _ _ h)
 | .sys c k, w, d, b, h => by
  simp only [Sem.run] at h
  exact bI (yU w c) (ir _ _ _ _ h)
 | .program k, w, d, b, h => by simp only [Sem.run] at h; exact ir _ _ _ _ h
 | .mark m k, w, d, b, h => by simp only [Sem.run] at h; exact ir k _ _ _ h
 | .halt x, w, d, b, h => by simp only [Sem.run] at h; cases h
end Go.Proofs.YtcafmokjkjcomaaGreat
namespace Go.Proofs.YtcafmokjkjcomaaGreat
open Go.RowKit
variable {dd : Bool}
section
variable {P : Program} {n : Nat} {Q : gP} {E : Nat → Value} {W : World} {ops : Array Oper} {rest : List Oper}
 {d : Option Nat} {ty : TypeId} {pos : String} {af : Array Edge} {g : Option (Nat × Bool)}
 {F : Nat → Prop} {w : World} {μ : fz} {L : List (Nat × Obj)}
def ic (P : Program) (E : Nat → Value) (o : Oper) (W : World) (K : Value → World → Prop) : Prop :=
 (∃ v W', (execOp (fc E) o).run P W = .ok (.value v) W' ∧ K v W') ∨ (∃ W', (execOp (fc E) o).run P W = .ok .skip W' ∧ K undef W') ∨
 (∃ f args, (execOp (fc E) o).run P W = .ok (.enter f args) W ∧ Calls P f args W fun e a => ∃ v, e = .returned v ∧ K v a)
theorem ic.mono {o : Oper} {K K' : Value → World → Prop} (h : ic P E o W K) (hk : ∀ v W', K v W' → K' v W') : ic P E o W K' := by
 rcases h with ⟨v, W', h1, a⟩ | ⟨W', h1, a⟩ | ⟨f, args, h1, a⟩
 ·exact .inl ⟨v, W', h1, hk _ _ a⟩
 ·exact .inr (.inl ⟨W', h1, hk _ _ a⟩)
 ·exact .inr (.inr ⟨f, args, h1, bp a (fun _ _ ⟨v, c, d⟩ => ⟨v, c, hk _ _ d⟩)⟩)
theorem Bn {o : Oper} {dd : Nat} (hw : gT n ops E o) (d : o.dst = some dd) (g : dd < n) (h : ic P E o W fun v W' => LW P n ops Q rest (gx E dd v) W') : LW P n ops Q (o :: rest) E W := by
 rcases h with ⟨v, W', h1, c⟩ | ⟨W', h1, c⟩ | ⟨f, args, h1, c⟩
 ·exact yn hw d g h1 c
 ·intro a ha
  unfold wpList
  rw [aB (hw.of ha)]
  refine .inl ?_
  unfold Oper.wp
  rw [ha.eval, h1, cQ, d]
  exact c _ (ha.put g _)
 ·exact zp hw d g h1 c
theorem BN {o : Oper} (hw : gT n ops E o) (d : o.dst = none) (h : ic P E o W fun _ W' => LW P n ops Q rest E W') : LW P n ops Q (o :: rest) E W := by
 rcases h with ⟨v, W', h1, c⟩ | ⟨W', h1, c⟩ | ⟨f, args, h1, c⟩
 ·intro a ha
  unfold wpList
  rw [aB (hw.of ha)]
  refine .inl ?_
  unfold Oper.wp
  rw [ha.eval, h1, cg, d]
  exact c _ (ha.lB _)
 ·exact zB hw d h1 c
 ·intro a ha
  unfold wpList
  rw [aB (hw.of ha)]
  refine .inl ?_
  unfold Oper.wp
  rw [ha.eval, h1, cj]
  refine bp c ?_
  rintro e i ⟨v, rfl, g⟩
  simp only [d]
  exact g _ (ha.lB _)
theorem hZ {K : Value → World → Prop} {t : TypeId} {x : Operand} {v : Value} (a : ST dd F w W μ L) (c : fc E x = v) (h : ∀ W' b, ST dd F w W' μ ((b, .cells v.cells t (0, 0)) :: L) → K (.pointer (some ⟨b, 0, none⟩)) W') : ic P E ⟨d, .box t x, ty, pos, af, g⟩ W K :=
 .inl ⟨.pointer (some ⟨W.heap.size, 0, none⟩), W.alloc (.cells v.cells t (0, 0)), by
   show (do pure (.value (← Instr.box t (fc E x))) : Sem Next).run P W = _
   rw [c]
   simp [Instr.box, newVar, newRow, newObj, Sem.run], h _ _ (a.alloc _)⟩
theorem gH {K : Value → World → Prop} {t : TypeId} {z : Value} (a : ST dd F w W μ L) (c : ∀ w, (zeroValue t).run P w = .ok z w) (h : ∀ W' b, ST dd F w W' μ ((b, .cells z.cells t (0, 0)) :: L) → K (.pointer (some ⟨b, 0, none⟩)) W') : ic P E ⟨d, .alloc t, ty, pos, af, g⟩ W K :=
 .inl ⟨.pointer (some ⟨W.heap.size, 0, none⟩), W.alloc (.cells z.cells t (0, 0)), by
   show (do pure (.value (← Instr.alloc t true (.tuple #[]))) : Sem Next).run P W = _
   simp [Instr.alloc, c W, newVar, newRow, newObj, Sem.run], h _ _ (a.alloc _)⟩
theorem tQ {t e : TypeId} {m k : Nat} {z : Value} {qs : Array (Nat × Value)} {cs : Array Value} (g : P.underlying t = some (.slice e)) (d : ∀ w, (sizeOf e).run P w = .ok k w) (h : ∀ w, (zeroValue e).run P w = .ok z w) (hm : m * k ≤ 16777216) (a : Instr.fill (fun i => some (i * k, k)) ((Array.range (m * k)).map (fun i => (if m * k = 0 then (#[] : Array Value) else z.cells)[i % (if m * k = 0 then (#[] : Array Value) else z.cells).size]!)) qs.toList = some cs) (W : World) :
  (Instr.buildSlice t m qs).run P W = .ok (.slice (some ⟨W.heap.size, 0, none⟩) m m) (W.alloc (.cells cs e (0, 0))) := by
 simp only [Instr.buildSlice, bh, aC g, aN, d W]
 rw [aA (by omega)]
 by_cases c : m * k = 0
 ·simp only [c, aO] at a ⊢
  simp only [bh, bN, aN, a]
  simp [newRow, newObj, Sem.run]
 ·simp only [c, aI] at a ⊢
  simp only [bh, h W, bN, aN, a]
  simp [newRow, newObj, Sem.run]
theorem gk {K : Value → World → Prop} {t e : TypeId} {m : Nat} {c : Array (Nat × Operand)} {qs : Array (Nat × Value)} {cs : Array Value} (a : ST dd F w W μ L) (j : c.map (fun (i, x) => (i, fc E x)) = qs) (k : ∀ W, (Instr.buildSlice t m qs).run P W = .ok (.slice (some ⟨W.heap.size, 0, none⟩) m m) (W.alloc (.cells cs e (0, 0)))) (h : ∀ W' b, ST dd F w W' μ ((b, .cells cs e (0, 0)) :: L) → K (.slice (some ⟨b, 0, none⟩) m m) W') : ic P E ⟨d, .buildSlice t m c, ty, pos, af, g⟩ W K :=
 .inl ⟨.slice (some ⟨W.heap.size, 0, none⟩) m m, W.alloc (.cells cs e (0, 0)), by
   show (do pure (.value (← Instr.buildSlice t m (c.map fun (i, x) => (i, fc E x)))) : Sem Next).run P W = _
   rw [j]
   simp [k W], h _ _ (a.alloc _)⟩
theorem ST.store {A B : List (Nat × Obj)} {b : Nat} {cs : Array Value} {t : TypeId} (a : ST dd F w W μ (A ++ (b, .cells cs t (0, 0)) :: B)) (cs' : Array Value) :
  ST dd F w (W.setRow b cs') μ (A ++ (b, .cells cs' t (0, 0)) :: B) := by
 have c := (a.box b _ (by simp : (b, Obj.cells cs t (0, 0)) ∈ A ++ (b, .cells cs t (0, 0)) :: B)).1
 refine a.put ⟨rfl, rfl, rfl, aQ _, by simp [World.setRow]⟩ (fun k hk => ?_) (setRow_heap W b cs cs' t (0, 0) c)
 simp only [World.setRow, cq]
 rw [aA (fun e => hk e.symm)]
theorem qf (P : Program) {W : World} {t : TypeId} {b off : Nat} {cs : Array Value} {T : TypeId} (v : Value) (a : ∀ w, (sizeOf t).run P w = .ok v.cells.size w) (h1 : ∀ u ∈ v.cells.toList, u.oneCell' = true) (c : W.heap[b]? = some (.cells cs T (0, 0))) (d : off + v.cells.size ≤ cs.size) : (Instr.storeAt t (.pointer (some ⟨b, off, none⟩)) v).run P W = .ok () (W.setRow b (cs.toList.take off ++ v.cells.toList ++ cs.toList.drop (off + v.cells.size)).toArray) := by
 have := run_storeCells_at (P := P) b off T v.cells.toList 0 cs W c (by simpa using d) h1
 simp [Instr.storeAt, Instr.sureAddr, storeVar, a W]
 simpa using this
theorem pn {K : Value → World → Prop} (A : List (Nat × Obj)) {B : List (Nat × Obj)} {t : TypeId} {x y : Operand} (v : Value) {b off : Nat} {cs : Array Value} {T : TypeId} (cs' : Array Value) (a : ST dd F w W μ (A ++ (b, .cells cs T (0, 0)) :: B)) (n : fc E x = .pointer (some ⟨b, off, none⟩)) (o : fc E y = v) (c : ∀ w, (sizeOf t).run P w = .ok v.cells.size w) (h1 : ∀ u ∈ v.cells.toList, u.oneCell' = true) (k : off + v.cells.size ≤ cs.size) (j : (cs.toList.take off ++ v.cells.toList ++ cs.toList.drop (off + v.cells.size)).toArray = cs') (h : ∀ W', ST dd F w W' μ (A ++ (b, .cells cs' T (0, 0)) :: B) → K undef W') : ic P E ⟨d, .store t x y, ty, pos, af, g⟩ W K :=
 .inr (.inl ⟨W.setRow b cs', by
   show (do Instr.storeAt t (fc E x) (fc E y); pure .skip : Sem Next).run P W = _
   have i := (a.box b _ (by simp : (b, Obj.cells cs T (0, 0)) ∈ A ++ (b, .cells cs T (0, 0)) :: B)).1
   rw [n, o]
   simp only [bh, qf P v c h1 i k, j, aN, bN], h _ (a.store cs')⟩)
def fV (dd : Bool) (P : Program) (f : FuncId) (args : List Value) (w : World) (v : Value) : Prop := Calls P f args.toArray w fun e a => e = .returned v ∧ Ex dd w a
theorem ur {f : FuncId} {fv : Operand} {ax : Array Operand} {ats : Array TypeId} {caps args : Array Value} (a : fc E fv = .func (.func f) #[] caps) (he : ∀ args w, (callFunc f args).run P w = .ok (.enter f args) w) (ha : ax.map (fc E) ++ caps = args) :
  (execOp (fc E) ⟨d, .call ⟨.value fv, ax, ats⟩, ty, pos, af, g⟩).run P W = .ok (.enter f args) W := by
 show (do let d ← resolve (fc E) ⟨.value fv, ax, ats⟩ ty; invoke d.target d.args : Sem Next).run P W = _
 rw [← ha]
 simp only [resolve, a, Deferred.ofValue, bh, bN, aN, invoke]
 simp [he]
theorem sa {K : Value → World → Prop} {f : FuncId} {fv : Operand} {ax : Array Operand} {ats : Array TypeId} {caps args : Array Value} (a : fc E fv = .func (.func f) #[] caps) (he : ∀ args w, (callFunc f args).run P w = .ok (.enter f args) w) (ha : ax.map (fc E) ++ caps = args) (h : Calls P f args W fun e c => ∃ v, e = .returned v ∧ K v c) : ic P E ⟨d, .call ⟨.value fv, ax, ats⟩, ty, pos, af, g⟩ W K :=
 .inr (.inr ⟨f, args, ur a he ha, h⟩)
theorem xl {K : Value → World → Prop} {f : FuncId} {fv : Operand} {ax : Array Operand} {ats : Array TypeId} {args : List Value} {v : Value} (a : ST dd F w W μ L) (j : fc E fv = .func (.func f) #[] #[]) (he : ∀ args w, (callFunc f args).run P w = .ok (.enter f args) w) (ha : (ax.map (fc E) ++ (#[] : Array Value)) = args.toArray) (i : fV dd P f args W v) (h : ∀ W', ST dd F w W' μ L → K v W') : ic P E ⟨d, .call ⟨.value fv, ax, ats⟩, ty, pos, af, g⟩ W K :=
 sa j he ha (bp i (fun _ _ ⟨h1, c⟩ => ⟨v, h1, h _ (a.xL c)⟩))
def fN {α : Type} (e : TypeId) (enc : α → List Value) (k : Nat) (v : Value) (l : List α) (R : List (Nat × Obj)) : Prop :=
 (v = .slice none 0 0 ∧ l = [] ∧ R = []) ∨
 ∃ g cap a, v = .slice (some ⟨g, 0, none⟩) l.length cap ∧ R = [(g, .cells a e (0, 0))] ∧ l.length ≤ cap ∧ cap ≤ maxLen ∧ a.size = cap * k ∧ a.toList.take (l.length * k) = (l.map enc).flatten
theorem ly {α : Type} {enc : α → List Value} {k : Nat} (hk : ∀ x, (enc x).length = k) : ∀ l : List α, (l.map enc).flatten.length = l.length * k
 | [] => by simp
 | x :: l => by simp [ly hk l, hk x, bz, eE]
theorem nC {α : Type} {enc : α → List Value} {k : Nat} (hk : ∀ x, (enc x).length = k) : ∀ (l : List α) (i : Nat) (x : α), l[i]? = some x → ∀ j y, (enc x)[j]? = some y → (l.map enc).flatten[i * k + j]? = some y
 | [], i, x, h => by cases h
 | z :: l, 0, x, h => by
  simp at h; subst h
  intro j y a
  have c : j < (enc z).length := (aM.1 a).1
  simp [dg, c]
  rw [bD c] at a
  simpa using a
 | z :: l, i + 1, x, h => by
  intro j y a
  have := nC hk l i x (by simpa using h) j y a
  simp only [aT, bJ]
  rw [dh (by rw [hk z]; have := Nat.le_mul_of_pos_left k (Nat.succ_pos i); simp [bz] at *; omega), hk z]
  rw [show (i + 1) * k + j - k = i * k + j by rw [bz]; omega]
  exact this
theorem vW {α : Type} {enc : α → List Value} {k : Nat} (hk : ∀ x, (enc x).length = k) : ∀ (l : List α) (q : Nat) (y : Value), (l.map enc).flatten[q]? = some y → ∃ i x j, l[i]? = some x ∧ (enc x)[j]? = some y ∧ q = i * k + j
 | [], q, y, h => by simp at h
 | z :: l, q, y, h => by
  simp only [aT, bJ] at h
  by_cases c : q < k
  ·rw [List.getElem?_append_left (by rw [hk]; exact c)] at h
   exact ⟨0, z, q, rfl, h, by simp⟩
  ·rw [dh (by rw [hk]; omega), hk] at h
   obtain ⟨i, x, j, h1, a, d⟩ := vW hk l (q - k) y h
   exact ⟨i + 1, x, j, by simpa using h1, a, by rw [bz]; omega⟩
theorem fN.nil {α : Type} (e : TypeId) (enc : α → List Value) (k : Nat) : fN e enc k (.slice none 0 0) [] [] := .inl ⟨rfl, rfl, rfl⟩
theorem fN.sl {α : Type} {e : TypeId} {enc : α → List Value} {k : Nat} {v : Value} {l : List α} {R : List (Nat × Obj)} {m : fz} (h : fN e enc k v l R) (hk : ∀ x, (enc x).length = k) (hm : ∀ b o, (b, o) ∈ R → m b = some o) : Sl (Pl enc) k m v l := by
 rcases h with ⟨rfl, rfl, rfl⟩ | ⟨g, cap, a, rfl, rfl, h1, d, s, n⟩
 ·exact Sl.nil _ _ _
 ·refine ⟨_, cap, rfl, h1, d, fun _ => ⟨g, 0, a, e, (0, 0), rfl, hm _ _ (by simp), fun i x p => ⟨enc x, hk x, rfl, fun j y q => ?_⟩⟩⟩
  have := nC hk l i x p j y q
  rw [← n] at this
  have c : i * k + j < l.length * k := by
   have := (aM.1 this).1
   simp at this; omega
  rw [cN c] at this
  simpa using this
theorem fN.len {α : Type} {e : TypeId} {enc : α → List Value} {k : Nat} {v : Value} {l : List α} {R : List (Nat × Obj)} (h : fN e enc k v l R) : l.length ≤ 9223372036854775807 := by
 rcases h with ⟨rfl, rfl, rfl⟩ | ⟨g, cap, a, rfl, rfl, h1, c, d, i⟩
 ·simp
 ·unfold maxLen at c; omega
theorem fN.fr {α : Type} {e : TypeId} {enc : α → List Value} {k : Nat} {v : Value} {l : List α} {R X Y : List (Nat × Obj)} (h : fN e enc k v l R) (a : ST dd ga w W μ (X ++ (R ++ Y))) : Fr w.heap.size v := by
 rcases h with ⟨rfl, rfl, rfl⟩ | ⟨g, cap, d, rfl, rfl, h1, i, j, n⟩
 ·exact Fr.nil _
 ·intro b c
  simp [Value.ownBlock] at c
  subst c
  rcases (a.box g _ (by simp; exact .inr (.inl rfl))).2.2 with h | h
  ·exact h
  ·exact h.elim
theorem fN.lit {α : Type} {e : TypeId} {enc : α → List Value} {k b m : Nat} {l : List α} {cs : Array Value} (hm : l.length = m) (c : m ≤ maxLen) (d : cs.toList = (l.map enc).flatten) (a : cs.size = m * k) : fN e enc k (.slice (some ⟨b, 0, none⟩) m m) l [(b, .cells cs e (0, 0))] := by
 subst hm
 refine .inr ⟨b, _, cs, rfl, rfl, aQ _, c, a, ?_⟩
 rw [← d, ← a]
 exact cd (by rw [bG]; exact aQ _)
def lV {α : Type} (a : Nat) (l m : List α) : Option (List α) := if (l.length + m.length) * a ≤ 140737488355328 ∧ l.length + m.length ≤ maxLen then some (l ++ m) else none
theorem zq {K : Value → World → Prop} {α : Type} {e t : TypeId} {enc : α → List Value} {k ab : Nat} {z v vs : Value} {l m r : List α} {R : List (Nat × Obj)} (X : List (Nat × Obj)) {Y : List (Nat × Obj)} {x y : Operand} {i : TypeInfo} (p : ST dd F w W μ (X ++ (R ++ Y))) (hk : ∀ x, (enc x).length = k) (b5 : 0 < k) (h1 : ∀ x, ∀ u ∈ enc x, u.oneCell' = true) (ht : P.underlying t = some (.slice e)) (hi : P.info? e = some i) (hz : i.zero = some z) (ba : z.cells.size = k) (b6 : i.size = k) (b3 : i.bytes = ab) (hx : fc E x = v) (hy : fc E y = vs) (hR : fN e enc k v l R) (hs : Sl (Pl enc) k (hp W) vs m) (n : lV ab l m = some r) (h : ∀ W' v' R', ST dd F w W' μ (X ++ (R' ++ Y)) → fN e enc k v' r R' → K v' W') : ic P E ⟨d, .call ⟨.builtin .append, #[x, y], #[t, t]⟩, ty, pos, af, g⟩ W K := by
 unfold lV at n
 split at n
 case isFalse => cases n
 rename_i aj
 cases n
 have aa : ∀ (V : Value) (W' : World), (Builtin.append_ #[t, t] ty #[v, vs]).run P W = .ok V W' → (execOp (fc E) ⟨d, .call ⟨.builtin .append, #[x, y], #[t, t]⟩, ty, pos, af, g⟩).run P W = .ok (.value V) W' := by
  intro V W' hV
  show (do let d ← resolve (fc E) ⟨.builtin .append, #[x, y], #[t, t]⟩ ty; invoke d.target d.args : Sem Next).run P W = _
  simp [resolve, invoke, builtin, hx, hy, hV]
 obtain ⟨A, c, rfl, c0, c3, b4⟩ := hs
 have a8 : W.ownsRow 0 e k v l.length (l.map enc).flatten := by
  refine ⟨ly hk l, ?_⟩
  rcases hR with ⟨rfl, rfl, rfl⟩ | ⟨g, cap, I, rfl, rfl, h1, h2, h3, h4⟩
  ·exact .inl ⟨rfl, rfl⟩
  ·exact .inr ⟨g, cap, I, rfl, di _, (p.box g _ (by simp)).1, h1, h2, h3, h4⟩
 have au : m.length = 0 ∨ ∃ ad, A = some ad ∧ ∀ j u, (m.map enc).flatten[j]? = some u → W.cell? (ad.add j) = some u := by
  rcases cz m.length with M | M
  ·exact .inl M
  ·obtain ⟨b, off, cs, T, fr, rfl, h6, h7⟩ := b4 M
   refine .inr ⟨⟨b, off, none⟩, rfl, fun j u hu => ?_⟩
   obtain ⟨i, x, q, h8, h9, rfl⟩ := vW hk m j u hu
   obtain ⟨ys, _, aE, b0⟩ := h7 i x h8
   cases aE
   rw [cu, en W b (off + (i * k + q)) cs T fr h6, ← dv]
   exact b0 q u h9
 have ar : ∀ u ∈ (m.map enc).flatten, u.oneCell' = true := by
  intro u hu
  obtain ⟨ys, b9, b7⟩ := List.mem_flatten.1 hu
  obtain ⟨x, _, rfl⟩ := aS.1 b9
  exact h1 x u b7
 by_cases ao : m.length = 0
 ·have hm : m = [] := cw ao
  subst hm
  have hr : (Builtin.append_ #[t, t] ty #[v, .slice A 0 c]).run P W = .ok v W := by
   rcases a8.2 with ⟨rfl, M⟩ | ⟨g, cap, I, rfl, _, hg, ap, _, c4, _⟩
   ·cases A with
    | none => simp [Builtin.append_, aC ht, sizeOf, typeInfo, hi, Builtin.lenOf, Builtin.firstCells]
    | some ad => simp [Builtin.append_, aC ht, sizeOf, typeInfo, hi, Builtin.lenOf, Builtin.firstCells, loadCells, loadCellsFrom]
   ·cases A with
    | none => simp [Builtin.append_, aC ht, sizeOf, typeInfo, hi, Builtin.lenOf, Builtin.firstCells, ap, storeCells]
    | some ad => simp [Builtin.append_, aC ht, sizeOf, typeInfo, hi, Builtin.lenOf, Builtin.firstCells, loadCells, loadCellsFrom, ap, storeCells]
  exact .inl ⟨v, W, aa _ _ (by simpa using hr), by simpa using h W v R p (by simpa using hR)⟩
 rcases au with M | ⟨ad, rfl, a1⟩
 ·exact absurd M ao
 obtain ⟨v', W', hr, ah, s, bs, L⟩ := run_append_own_at (P := P) W 0 t ty e i z k ab ht hi hz b6 b3 ba b5 v l.length (l.map enc).flatten a8 ad m.length c (m.map enc).flatten (ly hk m) a1 ar aj.2 aj.1 (di _)
 have ae := ir _ _ _ _ hr
 refine .inl ⟨v', W', aa _ _ hr, ?_⟩
 have hlen : (l ++ m).length = l.length + m.length := by simp
 rcases ah.2 with ⟨_, M⟩ | ⟨Q, a6, a7, rfl, _, ag, bb, ak, al, av⟩
 ·omega
 have ai : fN e enc k (.slice (some ⟨Q, 0, none⟩) (l.length + m.length) a6) (l ++ m) [(Q, .cells a7 e (0, 0))] :=
  .inr ⟨Q, a6, a7, by rw [hlen], rfl, by omega, ak, al, by rw [hlen, av]; simp⟩
 refine h W' _ _ ?_ ai
 have aq := p.nd
 rcases hR with ⟨rfl, rfl, rfl⟩ | ⟨g, cap, I, rfl, rfl, q1, q2, q3, q4⟩
 ·-- nil: a new block
  have U : W.heap.size ≤ Q := by
   rcases L with h | h <;> simp [Value.ownBlock] at h
   omega
  have hex : Ex dd W W' := ⟨s.os, s.tape, s.output, kP.of ae, s.size, fun b n => s.block b n (by simp [Value.ownBlock])⟩
  have h1 := p.xL hex
  refine ⟨h1.os, h1.tape, h1.output, h1.drawn, h1.size, h1.jZ, h1.mem, fun b o n => ?_, ?_⟩
  ·simp only [aY, aV] at n
   rcases n with n | n | n
   ·exact h1.box b o (by simp [n])
   ·cases n
    refine ⟨ag, ?_, .inl (bI p.size U)⟩
    cases hm : μ Q with
    | none => rfl
    | some x => have := p.rX hm; omega
   ·exact h1.box b o (by simp [n])
  ·simp only [cx, bo, aT, List.singleton_append] at aq ⊢
   refine (dT dJ).2 (ck.2 ⟨fun hm => ?_, aq⟩)
   rw [← bo] at hm
   obtain ⟨⟨b, o⟩, n, J⟩ := aS.1 hm
   have b2 : (b, o) ∈ X ++ ([] ++ Y) := by simpa using n
   have := p.ta b2
   simp at J
   omega
 ·by_cases an : Q = g
  ·subst an
   have M : ST dd F w W μ (X ++ (Q, Obj.cells I e (0, 0)) :: Y) := by simpa using p
   have hold : ∀ b, b < W.heap.size → b ≠ Q → W'.heap[b]? = W.heap[b]? := fun b n G => s.block b n (by simp [Value.ownBlock]; exact G)
   have D := M.nd
   simp only [bo, aT] at D
   have G : ∀ b o, (b, o) ∈ X ++ Y → b ≠ Q := fun b o n J => by
    subst J
    rcases aY.1 n with n | n
    ·exact (bn.1 D).2.2 b (aS.2 ⟨_, n, rfl⟩) b (by simp) rfl
    ·exact (ck.1 (bn.1 D).2.1).1 (aS.2 ⟨_, n, rfl⟩)
   have O := M.box Q (Obj.cells I e (0, 0)) (by simp)
   refine ⟨s.os.trans p.os, s.tape.trans p.tape, s.output.trans p.output, kP.trans p.drawn (kP.of ae), bI p.size s.size, fun b n hF => ?_, fun b o n => ?_, fun b o n => ?_, by simpa using D⟩
   ·rw [hold b (bK n p.size) (fun J => by subst J; rcases O.2.2 with h | h; omega; exact hF h)]
    exact p.jZ b n hF
   ·rw [hold b (p.rX n) (fun J => by subst J; rw [O.2.1] at n; cases n)]
    exact p.mem b o n
   ·simp only [aY, aV] at n
    rcases n with n | n | n
    ·obtain ⟨Z, r2⟩ := p.box b o (by simp [n])
     exact ⟨by rw [hold b (gO Z) (G b o (by simp [n]))]; exact Z, r2⟩
    ·cases n; exact ⟨ag, O.2⟩
    ·obtain ⟨Z, r2⟩ := p.box b o (by simp [n])
     exact ⟨by rw [hold b (gO Z) (G b o (by simp [n]))]; exact Z, r2⟩
  ·have U : W.heap.size ≤ Q := by
    rcases L with h | h <;> simp [Value.ownBlock] at h
    ·exact absurd h an
    ·omega
   have M : ST dd F w W μ (X ++ (g, Obj.cells I e (0, 0)) :: Y) := by simpa using p
   have O := M.box g (Obj.cells I e (0, 0)) (by simp)
   have D := M.nd
   simp only [bo, aT] at D
   have G : ∀ b o, (b, o) ∈ X ++ Y → b ≠ g := fun b o n J => by
    subst J
    rcases aY.1 n with n | n
    ·exact (bn.1 D).2.2 b (aS.2 ⟨_, n, rfl⟩) b (by simp) rfl
    ·exact (ck.1 (bn.1 D).2.1).1 (aS.2 ⟨_, n, rfl⟩)
   have hold : ∀ b, b < W.heap.size → b ≠ g → W'.heap[b]? = W.heap[b]? := fun b n G => s.block b n (by simp [Value.ownBlock]; exact G)
   refine ⟨s.os.trans p.os, s.tape.trans p.tape, s.output.trans p.output, kP.trans p.drawn (kP.of ae), bI p.size s.size, fun b n hF => ?_, fun b o n => ?_, fun b o n => ?_, ?_⟩
   ·rw [hold b (bK n p.size) (fun J => by subst J; rcases O.2.2 with h | h; omega; exact hF h)]
    exact p.jZ b n hF
   ·rw [hold b (p.rX n) (fun J => by subst J; rw [O.2.1] at n; cases n)]
    exact p.mem b o n
   ·simp only [aY, aV] at n
    rcases n with n | n | n
    ·obtain ⟨Z, r2⟩ := p.box b o (by simp [n])
     exact ⟨by rw [hold b (gO Z) (G b o (by simp [n]))]; exact Z, r2⟩
    ·cases n
     refine ⟨ag, ?_, .inl (bI p.size U)⟩
     cases hm : μ Q with
     | none => rfl
     | some x => have := p.rX hm; omega
    ·obtain ⟨Z, r2⟩ := p.box b o (by simp [n])
     exact ⟨by rw [hold b (gO Z) (G b o (by simp [n]))]; exact Z, r2⟩
   ·have b1 : (X.map (·.1) ++ Y.map (·.1)).Nodup := (ck.1 ((dT dJ).1 D)).2
    simp only [bo, aT, List.singleton_append]
    refine (dT dJ).2 (ck.2 ⟨fun hm => ?_, b1⟩)
    rw [← bo] at hm
    obtain ⟨⟨b, o⟩, n, J⟩ := aS.1 hm
    have := p.ta (b := b) (o := o) (by rcases aY.1 n with h | h <;> simp [h])
    simp at J
    omega
end
end Go.Proofs.YtcafmokjkjcomaaGreat
namespace Go.Proofs.YtcafmokjkjcomaaGreat
open Go.RowKit
def mx (l : List Value) : Nat → Value := fun t => l.getD t undef
def mu (P : Program) (fn : Func) (R : Ending → World → Prop) : gP
 | .normal, E, W | .ret, E, W => ∃ v, (∀ tmps : Array Value, (∀ t, tmps.getD t undef = E t) → (results fn tmps).run P W = .ok v W) ∧ R (.returned v) W
 | _, _, _ => False
theorem nr {P : Program} {f : FuncId} {fn : Func} {c : Code} {args : List Value} {w : World} {R : Ending → World → Prop} {n : Nat} (q : P.funcs[f]? = some fn) (p : fn.body = some c) (s : fn.ntmps = n) (ha : args.length ≤ n) (h : CW P n c (mu P fn R) (mx args) w) : Calls P f args.toArray w R := by
 refine calls_of_wp q p ?_
 have j : Ag n { tmps := args.toArray ++ Array.replicate (fn.ntmps - args.toArray.size) undef, defers := [] } (mx args) := by
  refine ⟨by simp; omega, rfl, fun t => ?_⟩
  simp only [mx, bq, dj, da, dw, bQ, db]
  by_cases o : t < args.length
  ·rw [aB o]
  ·rw [aA o, cr (by omega)]
   split <;> simp
 refine dy (h _ j) (fun e a u g => ?_)
 cases e with
 | normal =>
  obtain ⟨E, d, v, k, i⟩ := g
  exact ⟨d.2.1, v, k _ d.2.2, i⟩
 | ret =>
  obtain ⟨E, d, v, k, i⟩ := g
  exact ⟨d.2.1, v, k _ d.2.2, i⟩
 | exit id => obtain ⟨E, d, h⟩ := g; exact h.elim
 | goto l => obtain ⟨E, d, h⟩ := g; exact h.elim
 | panic c => exact g.2.elim
 | outgrown => exact g.elim
section
variable {P : Program} {fn : Func} {R : Ending → World → Prop} {E : Nat → Value} {W : World}
theorem fR {r : Tmp} {v : Value} (a : fn.results = #[.tmp r]) (d : E r = v) (h : R (.returned v) W) : mu P fn R .ret E W :=
 ⟨v, fun tmps c => by rw [results_tmp a, c, d], h⟩
theorem oS {r s : Tmp} {v u : Value} (c : fn.results = #[.tmp r, .tmp s]) (d : E r = v) (hu : E s = u) (h : R (.returned (.tuple #[v, u])) W) : mu P fn R .ret E W :=
 ⟨.tuple #[v, u], fun tmps a => by rw [results_tmp2 c, a, a, d, hu], h⟩
theorem we (a : fn.results = #[]) (h : R (.returned (.tuple #[])) W) : mu P fn R .ret E W :=
 ⟨.tuple #[], fun tmps _ => by rw [results_none a], h⟩
theorem iW {r : Tmp} {t : TypeId} {a : Addr} {v : Value} (c : fn.results = #[.cell r t]) (i : E r = .pointer (some a)) (g : (Instr.loadAt t (.pointer (some a))).run P W = .ok v W) (h : R (.returned v) W) : mu P fn R .ret E W :=
 ⟨v, fun tmps d => by
  have h1 : (loadVar t a).run P W = .ok v W := by simpa [Instr.loadAt, Instr.sureAddr] using g
  simp [results, c, d, i, asAddr, h1], h⟩
theorem wm (h : mu P fn R .ret E W) : mu P fn R .normal E W := h
end
section
variable {Q : gP} {E : Nat → Value} {W : World} {K : (Nat → Value) → World → Prop} {id j : Nat}
theorem gL (h : Q .normal E W) : mj id Q .normal E W := h
theorem jr (h : Q .ret E W) : mj id Q .ret E W := h
theorem qF (h : Q .normal E W) : mj id Q (.exit id) E W := by simp [mj]; exact h
theorem Bt (a : (j = id) = False) (h : Q (.exit j) E W) : mj id Q (.exit j) E W := by simp only [mj, a, aI]; exact h
theorem fB (h : K E W) : iE K Q .normal E W := h
theorem fP (h : Q .ret E W) : iE K Q .ret E W := h
theorem lY (h : Q (.exit j) E W) : iE K Q (.exit j) E W := h
end
theorem yk {i N : Nat} (hi : i < N) (a : N ≤ 9223372036854775807) : IntKind.i64.wrap ((i : Int) + 1) = ((i + 1 : Nat) : Int) := by
 rw [IntWalk.i64_in _ (by omega)]
 omega
theorem kI {P : Program} {n : Nat} {Q : gP} {E : Nat → Value} {W : World} {g s T U o p A u : Nat} {t1 t2 t3 t4 t5 t6 t7 : TypeId} {M O R : String} {f1 f2 f3 : Array Edge} {body : Code} (I : Nat → (Nat → Value) → World → Prop) (N : Nat) (J : N ≤ 9223372036854775807) (D : I 0 E W) (K : o < n) (L : u < n) (z : p < n) (G : ∀ i E W, I i E W → E p = .int .i64 (i : Nat) ∧ E A = .int .i64 (N : Nat)) (round : ∀ i E W, i < N → I i E W → CW P n (.block s body) (iE (fun E' W' => E' p = .int .i64 (i : Nat) ∧ I (i + 1) (gx (gx E' u (.int .i64 ((i + 1 : Nat) : Int))) p (.int .i64 ((i + 1 : Nat) : Int))) W') (mj g Q)) (gx E o (.bool true)) W) (done : ∀ E W, I N E W → Q .normal (gx E o (.bool false)) W) :
  CW P n (.block g (.loop (.seq (.region T #[⟨some o, .binOp .lss t1 (.tmp p) (.tmp A) t2, t3, M, f1, none⟩] false)
   (.seq (.cond (.tmp o) .skip (.exit g)) (.seq (.block s body)
    (.region U #[⟨some u, .binOp .add t4 (.tmp p) (.const (.int .i64 1)) t5, t6, O, f2, none⟩, ⟨some p, .move (.tmp u), t7, R, f3, none⟩] false)))))) Q E W := by
 refine jd (nc (fun m E W => ∃ i, i ≤ N ∧ m = N - i ∧ I i E W) N ⟨0, di _, by omega, D⟩ ?_)
 rintro m E W ⟨i, hi, rfl, d⟩
 obtain ⟨w, x⟩ := G i E W d
 refine fq (fi (uq (.inl rfl) rfl K (gl w x rfl) (fL ?_)))
 refine fB (fq ?_)
 have t : gx E o (.bool (decide ((i : Int) < (N : Int)))) o = .bool (decide ((i : Int) < (N : Int))) := by simp [gx]
 by_cases q : i < N
 ·have y : decide ((i : Int) < (N : Int)) = true := by simp; omega
  rw [y] at t ⊢
  refine nM t (gA (fB (fq ?_)))
  refine ua (round i E W q d) (fun e E' W' h => ?_)
  cases e with
  | normal =>
   obtain ⟨h1, F⟩ := h
   refine fB ?_
   have hw : IntKind.i64.wrap ((i : Int) + 1) = ((i + 1 : Nat) : Int) := yk q J
   refine fi (uq (v := .int .i64 ((i + 1 : Nat) : Int)) (.inl rfl) rfl L (gl (k := .i64) (a := (i : Int)) (b := 1) h1 rfl (by simp only [uW, hw])) ?_)
   refine uq (v := .int .i64 ((i + 1 : Nat) : Int)) (.inl rfl) rfl z (fp (by simp [fc, gx])) (fL ?_)
   exact fB ⟨N - (i + 1), by omega, i + 1, by omega, rfl, F⟩
  | exit j => exact h
  | goto l => exact h
  | ret => exact h
  | panic c => exact h
  | outgrown => exact h
 ·have y : decide ((i : Int) < (N : Int)) = false := by simp; omega
  rw [y] at t ⊢
  obtain rfl : i = N := by omega
  refine kz t (mZ (lY (lY (qF ?_))))
  exact done E W d
theorem yz {P : Program} {n : Nat} {x : Code} {Q : gP} {K : (Nat → Value) → World → Prop} {E : Nat → Value} {W : World} (J : (Nat → Value) → World → Prop) (h : CW P n x (iE J Q) E W) (k : ∀ E W, J E W → K E W) : CW P n x (iE K Q) E W :=
 ua h (fun e E W h => by cases e <;> first | exact k E W h | exact h)
theorem AW {α : Type} {c : Bool} {x y r : α} (a : c = true) (h : (if c = true then x else y) = r) : x = r := by rw [aB a] at h; exact h
theorem A0 {α : Type} {c : Bool} {x y r : α} (a : c = false) (h : (if c = true then x else y) = r) : y = r := by rw [aA (by rw [a]; decide)] at h; exact h
theorem bind_some {α β : Type} {o : Option α} {f : α → Option β} {r : β} (h : o.bind f = some r) : ∃ y, o = some y ∧ f y = some r := by
 cases o with
 | none => cases h
 | some y => exact ⟨y, rfl, h⟩
theorem xS (b : Bool) : b = true ∨ b = false := by cases b <;> simp
theorem jS {α : Type} {l : List α} {i : Nat} (h : i < l.length) : ∃ x xs, l.drop i = x :: xs ∧ l[i]? = some x ∧ l.drop (i + 1) = xs := by
 cases a : l.drop i with
 | nil => have := aH List.length a; simp at this; omega
 | cons x xs => exact ⟨x, xs, rfl, by rw [← List.head?_drop, a]; rfl, by rw [← List.drop_drop, a]; rfl⟩
theorem rD {P : Program} {W : World} (d : Nat) (xs ys : Array Value) : (Op.eqFields d xs ys []).run P W = .ok true W := by simp [Op.eqFields]
theorem jl {P : Program} {W : World} {d : Nat} {xs ys : Array Value} {f : Field} {c : List Field} {a b : Value} {r s : Bool} (i : f.name ≠ "_") (ha : (part f.type xs f.offset).run P W = .ok a W) (g : (part f.type ys f.offset).run P W = .ok b W) (he : (Op.equalIn d f.type a b).run P W = .ok r W) (h : (Op.eqFields d xs ys c).run P W = .ok s W) : (Op.eqFields d xs ys (f :: c)).run P W = .ok (r && s) W := by
 simp only [Op.eqFields, ne_eq, i, not_false_eq_true, aO, bh, ha, g, he, aN]
 cases r <;> simp [h]
theorem oB {P : Program} {W : World} {t : TypeId} {k : Nat} {cs : Array Value} {off : Nat} {v : Array Value} (a : ∀ w, (isAgg t).run P w = .ok true w) (c : ∀ w, (sizeOf t).run P w = .ok k w) (d : cs.extract off (off + k) = v) : (part t cs off).run P W = .ok (.agg v) W := by
 simp [part, a W, c W, d]
theorem lA {P : Program} {W : World} {t : TypeId} {cs : Array Value} {off : Nat} {v : Value} (a : ∀ w, (isAgg t).run P w = .ok false w) (c : cs[off]? = some v) : (part t cs off).run P W = .ok v W := by
 simp [part, a W, c]
def fU (a b : ByteArray) : Bool := a.toList == b.toList
theorem Ai {P : Program} {t : TypeId} (c : P.underlying t = some .string) (d : Nat) (a b : ByteArray) (W : World) : (Op.equalIn (d + 1) t (.string a) (.string b)).run P W = .ok (fU a b) W := run_equalIn_string W d t a b c
theorem CB {P : Program} {t : TypeId} {k : IntKind} (c : P.underlying t = some (.int k)) (d : Nat) (a b : Int) (W : World) : (Op.equalIn (d + 1) t (.int k a) (.int k b)).run P W = .ok (a == b) W := run_equalIn_int W d t k k a b c
theorem lQ {P : Program} {op : BinOp} {t : TypeId} {x y : Operand} {a b : Array Value} (c : P.eqGuardType P.depth t = false) (W : World) : (eqGuard op t x y (.agg a) (.agg b)).run P W = .ok () W := by
 cases op <;> simp [eqGuard] <;> (intro h; rw [c] at h; cases h)
theorem oz {P : Program} {t : TypeId} {a b : Array Value} {r : Bool} (h : ∀ W, (Op.equalIn Op.maxDepth t (.agg a) (.agg b)).run P W = .ok r W) (W : World) : (binOp .eql t (.agg a) (.agg b)).run P W = .ok (.bool r) W := by
 simp [binOp, Op.equal, h W]
theorem Av {P : Program} {t : TypeId} {a b : Array Value} {r : Bool} (h : ∀ W, (Op.equalIn Op.maxDepth t (.agg a) (.agg b)).run P W = .ok r W) (W : World) : (binOp .neq t (.agg a) (.agg b)).run P W = .ok (.bool !r) W := by
 simp [binOp, Op.equal, h W]
variable {dd : Bool}
def fl (k : IntKind) (x : Int) : List Value := [.int k x]
def pN (x : ByteArray) : List Value := [.string x]
theorem nh (k : IntKind) (x : Int) : ∀ u ∈ fl k x, u.oneCell' = true := by intro u hu; simp [fl] at hu; subst hu; rfl
theorem rr (x : ByteArray) : ∀ u ∈ pN x, u.oneCell' = true := by intro u hu; simp [pN] at hu; subst hu; rfl
def zS : ByteArray := ⟨#[]⟩
def oV (a b : ByteArray) : Bool := Op.bytesLess a.toList b.toList
@[irreducible] def iv : Nat := 18446744073709551616
theorem mq : iv = 18446744073709551616 := by unfold iv; rfl
def kk {α : Type} (l : List α) (i : Int) : Option α := if 0 ≤ i then l[i.toNat]? else none
theorem jI {α : Type} {l : List α} {i : Int} {x : α} (h : kk l i = some x) : 0 ≤ i := by
 unfold kk at h; split at h
 ·assumption
 ·cases h
theorem iz {α : Type} {l : List α} {i : Int} {x : α} (h : kk l i = some x) : l[i.toNat]? = some x := by
 unfold kk at h; split at h
 ·exact h
 ·cases h
theorem tU {α : Type} (l : List α) (i : Nat) : kk l (i : Int) = l[i]? := by simp [kk]
def nH (s : ByteArray) (i : Int) : Option UInt8 := if 0 ≤ i then s[i.toNat]? else none
theorem np {s : ByteArray} {i : Int} {x : UInt8} (h : nH s i = some x) : 0 ≤ i := by
 unfold nH at h; split at h
 ·assumption
 ·cases h
theorem pu {s : ByteArray} {i : Int} {x : UInt8} (h : nH s i = some x) : s[i.toNat]? = some x := by
 unfold nH at h; split at h
 ·exact h
 ·cases h
section
variable {F : Nat → Prop} {w W : World} {μ : fz} {L L' : List (Nat × Obj)} {α : Type} {e : TypeId} {enc : α → List Value} {k : Nat} {v : Value} {l : List α} {R : List (Nat × Obj)}
theorem ST.at_ (h : ST dd F w W μ L) {b : Nat} {o : Obj} (a : (b, o) ∈ L) : hp W b = some o := (h.box b o a).1
theorem fN.B9 (h : fN e enc k v l R) (hk : ∀ x, (enc x).length = k) (a : ST dd F w W μ L) (c : ∀ p, p ∈ R → p ∈ L) : Sl (Pl enc) k (hp W) v l :=
 h.sl hk (fun _ _ d => a.at_ (c _ d))
theorem fN.form (h : fN e enc k v l R) : ∃ A c, v = .slice A l.length c := by
 rcases h with ⟨rfl, rfl, rfl⟩ | ⟨g, cap, a, rfl, rfl, h1, d, i, j⟩
 ·exact ⟨_, _, rfl⟩
 ·exact ⟨_, _, rfl⟩
theorem Sl.form {R : jT α} (h : Sl R k μ v l) : ∃ A c, v = .slice A l.length c := let ⟨A, c, h, _⟩ := h; ⟨A, c, h⟩
theorem fN.Bk (h : fN e enc k v l R) (c : ST dd ga w W μ L) (i : ∀ p, p ∈ R → p ∈ L) : Fr w.heap.size v := by
 rcases h with ⟨rfl, rfl, rfl⟩ | ⟨g, cap, a, rfl, rfl, h1, j, n, o⟩
 ·exact Fr.nil _
 ·intro b d
  simp [Value.ownBlock] at d
  subst d
  rcases (c.box g (.cells a e (0, 0)) (i _ (aV.2 rfl))).2.2 with h | h
  ·exact h
  ·exact h.elim
theorem Sl.lit {b m : Nat} {cs : Array Value} (hk : ∀ x, (enc x).length = k) (hm : l.length = m) (c : m ≤ maxLen) (a : cs.toList = (l.map enc).flatten) (d : μ b = some (.cells cs e (0, 0))) : Sl (Pl enc) k μ (.slice (some ⟨b, 0, none⟩) m m) l :=
 (fN.lit (e := e) (b := b) hm c a (by have := aH List.length a; rw [ly hk, bG, hm] at this; exact this)).sl hk (fun g o h => by simp at h; obtain ⟨rfl, rfl⟩ := h; exact d)
theorem Fr.box (h : ST dd ga w W μ L) {b m c : Nat} {o : Obj} (d : (b, o) ∈ L) : Fr w.heap.size (.slice (some ⟨b, 0, none⟩) m c) := by
 intro g a
 simp [Value.ownBlock] at a
 subst a
 rcases (h.box b o d).2.2 with h | h
 ·exact h
 ·exact h.elim
theorem ST.perm (h : ST dd F w W μ L) (hp : L.Perm L') : ST dd F w W μ L' :=
 ⟨h.os, h.tape, h.output, h.drawn, h.size, h.jZ, h.mem, fun b o a => h.box b o (hp.mem_iff.2 a), (hp.map _).nodup_iff.1 h.nd⟩
theorem ST.sublist (h : ST dd F w W μ L) (a : L'.Sublist L) : ST dd F w W μ L' :=
 ⟨h.os, h.tape, h.output, h.drawn, h.size, h.jZ, h.mem, fun b o c => h.box b o (a.subset c), h.nd.sublist (a.map _)⟩
end
section
variable {E : Nat → Value} {x1 x2 x3 x4 x5 x6 : Operand} {v1 v2 v3 v4 v5 v6 : Value}
theorem jY (h1 : fc E x1 = v1) : #[x1].map (fc E) ++ (#[] : Array Value) = [v1].toArray := by simp [h1]
theorem kx (h1 : fc E x1 = v1) (a : fc E x2 = v2) : #[x1, x2].map (fc E) ++ (#[] : Array Value) = [v1, v2].toArray := by simp [h1, a]
end
theorem uC : ∀ (v : List Value) (i off : Nat) (cells : Array Value), off + i + v.length ≤ cells.size →
  (v.zipIdx i).foldl (fun cs (c, j) => cs.setIfInBounds (off + j) c) cells = (cells.toList.take (off + i) ++ v ++ cells.toList.drop (off + i + v.length)).toArray
 | [], i, off, cells, h => by simp
 | c :: v, i, off, cells, h => by
  simp only [List.zipIdx_cons, eP]
  simp only [aU] at h
  rw [uC v (i + 1) off _ (by simp; omega)]
  have g : off + i < cells.toList.length := by simp; omega
  congr 1
  rw [Array.toList_setIfInBounds]
  apply cI
  intro j
  have k : (cells.toList.take (off + i)).length = off + i := by simp; omega
  by_cases h1 : j < off + i
  ·simp only [dg, aK, bx, dR, bG, aU, cA, de, ct]
   rw [show min (off + (i + 1)) cells.size = off + (i + 1) by omega, show min (off + i) cells.size = off + i by omega]
   rw [aB (by omega), aB (by omega), aB (by omega), aA (by omega), aB (by omega), aB (by omega), aB (by omega)]
  ·by_cases d : j = off + i
   ·subst d
    simp [dg, cA, de, show off + i < off + (i + 1) by omega]
    rw [aB (by omega), aB (by omega), aA (by omega), show off + i - min (off + i) cells.size = 0 by omega]
    rfl
   ·simp only [dg, aK, bx, dR, bG, aU, cA, de, ct]
    rw [show min (off + (i + 1)) cells.size = off + (i + 1) by omega, show min (off + i) cells.size = off + i by omega]
    by_cases a : j < off + (i + 1) + v.length
    ·rw [aB a, aA (by omega), aB (by omega), aA (by omega)]
     rw [show j - (off + i) = (j - (off + (i + 1))) + 1 by omega]
     simp
    ·rw [aA a, aA (by omega), aA (by omega)]
     congr 1
     omega
theorem vD {k : Nat} : ∀ (vs : List Value) (i : Nat) (pre rest : List Value), (∀ v ∈ vs, v.cells.size = k) → pre.length = i * k → rest.length = vs.length * k →
  Instr.fill (fun i => some (i * k, k)) (pre ++ rest).toArray ((vs.zipIdx i).map (fun p => (p.2, p.1))) = some (pre ++ vs.flatMap (fun v => v.cells.toList)).toArray
 | [], i, pre, rest, g, hp, d => by
  have : rest = [] := by cases rest <;> simp at d ⊢
  simp [Instr.fill, this]
 | v :: vs, i, pre, rest, g, hp, d => by
  have a := g v (by simp)
  have h : v.cells.zipIdx.foldl (fun cs (c, j) => cs.setIfInBounds (i * k + j) c) (pre ++ rest).toArray = (pre ++ v.cells.toList ++ rest.drop k).toArray := by
   have := uC v.cells.toList 0 (i * k) (pre ++ rest).toArray (by simp [hp, d, a, bz])
   rw [← Array.toList_zipIdx, Array.foldl_toList] at this
   rw [this]
   congr 1
   simp [← hp, a]
  simp only [List.zipIdx_cons, aT, Instr.fill]
  rw [aA (by simp [a, hp, d, bz]), h]
  have := vD vs (i + 1) (pre ++ v.cells.toList) (rest.drop k) (fun u hu => g u (by simp [hu])) (by simp [hp, a, bz]) (by simp [d, bz])
  rw [this]
  simp
theorem zk {k m : Nat} {a cs : Array Value} {qs : Array (Nat × Value)} (vs : List Value) (d : qs.toList = vs.zipIdx.map (fun p => (p.2, p.1))) (h : ∀ v ∈ vs, v.cells.size = k) (hm : vs.length = m) (g : a.size = m * k) (c : (vs.flatMap (fun v => v.cells.toList)).toArray = cs) : Instr.fill (fun i => some (i * k, k)) a qs.toList = some cs := by
 subst hm c
 rw [d]
 have := vD vs 0 [] a.toList h (by simp) (by simpa using g)
 simpa using this
theorem mr {P : Program} {t e : TypeId} {m k : Nat} {z : Value} {qs : Array (Nat × Value)} {cs : Array Value} (vs : List Value) (h : P.underlying t = some (.slice e)) (g : ∀ w, (sizeOf e).run P w = .ok k w) (j : ∀ w, (zeroValue e).run P w = .ok z w) (hm : m * k ≤ 16777216) (d : qs.toList = vs.zipIdx.map (fun p => (p.2, p.1))) (i : ∀ v ∈ vs, v.cells.size = k) (c : vs.length = m) (a : (vs.flatMap (fun v => v.cells.toList)).toArray = cs) (W : World) :
  (Instr.buildSlice t m qs).run P W = .ok (.slice (some ⟨W.heap.size, 0, none⟩) m m) (W.alloc (.cells cs e (0, 0))) :=
 tQ h g j hm (zk vs d i c (by simp) a) W
theorem mI {E : Nat → Value}  : (#[] : Array (Nat × Operand)).map (fun (i, x) => (i, fc E x)) = #[] := by simp
theorem iU {E : Nat → Value} {x0 : Operand} {v0 : Value} {i0 : Nat} (a : fc E x0 = v0) : (#[(i0, x0)] : Array (Nat × Operand)).map (fun (i, x) => (i, fc E x)) = #[(i0, v0)] := by simp [a]
theorem lf {E : Nat → Value} {x0 x1 : Operand} {v0 v1 : Value} {i0 i1 : Nat} (a : fc E x0 = v0) (h1 : fc E x1 = v1) : (#[(i0, x0), (i1, x1)] : Array (Nat × Operand)).map (fun (i, x) => (i, fc E x)) = #[(i0, v0), (i1, v1)] := by simp [a, h1]
theorem BB {E : Nat → Value} {x0 x1 x2 : Operand} {v0 v1 v2 : Value} {i0 i1 i2 : Nat} (a : fc E x0 = v0) (h1 : fc E x1 = v1) (c : fc E x2 = v2) : (#[(i0, x0), (i1, x1), (i2, x2)] : Array (Nat × Operand)).map (fun (i, x) => (i, fc E x)) = #[(i0, v0), (i1, v1), (i2, v2)] := by simp [a, h1, c]
theorem AV {E : Nat → Value} {x0 x1 x2 x3 : Operand} {v0 v1 v2 v3 : Value} {i0 i1 i2 i3 : Nat} (a : fc E x0 = v0) (h1 : fc E x1 = v1) (c : fc E x2 = v2) (d : fc E x3 = v3) : (#[(i0, x0), (i1, x1), (i2, x2), (i3, x3)] : Array (Nat × Operand)).map (fun (i, x) => (i, fc E x)) = #[(i0, v0), (i1, v1), (i2, v2), (i3, v3)] := by simp [a, h1, c, d]
theorem gr {P : Program} {t : TypeId} {f off : Nat} {a : Array Field} {fd : Field} (h : P.underlying t = some (.struct a)) (c : a[f]? = some fd) {k : Nat} (g : ∀ w, (sizeOf fd.type).run P w = .ok k w) (hk : k ≠ 0) (d : fd.offset = off) : gQ P t f off := by
 intro b o w
 subst d
 simp [Instr.fieldAt, aC h, c, Instr.sureAddr, fieldPlace, cu, g w, hk]
theorem Ag.xw {n : Nat} {a : Act} {E : Nat → Value} (h : Ag n a E) {ops : Array Oper} {j t : Nat} (d : (ops[j]?).bind (·.dst) = some t) (i : t < n) (k : E t = undef) : yielded ops a.tmps j = none := by
 have c := h.2.2 t
 have g : a.tmps[t]? = some (E t) := by
  rw [← c]
  simp [bq, h.1, i]
 simp [yielded, d, g, k, undef]
theorem A2 {P : Program} {n : Nat} {Q : gP} {E : Nat → Value} {W : World} {ops : Array Oper} {rest : List Oper} {o : Oper} {d j t : Nat} {want : Bool} (g : o.dst = some d) (p : d < n) (i : o.guard = some (j, want)) (k : (ops[j]?).bind (·.dst) = some t) (q : t < n) (c : E t = undef) (h : LW P n ops Q rest (gx E d undef) W) : LW P n ops Q (o :: rest) E W := fun a ha => by
 unfold wpList
 have s := ha.xw k q c
 rw [aA (by simp [Region.wanted, i, s])]
 rw [g]
 exact h _ (ha.put p _)
theorem BF {P : Program} {n : Nat} {Q : gP} {E : Nat → Value} {W : World} {ops : Array Oper} {rest : List Oper} {A : Value → Prop} {o : Oper} {dd : Nat} (hw : gT n ops E o) (c : o.dst = some dd) (d : dd < n) (g : ∃ p, A p ∧ ∀ W, fQ P E o W p W) (h : ∀ p, A p → LW P n ops Q rest (gx E dd p) W) : LW P n ops Q (o :: rest) E W := by
 obtain ⟨p, h1, a⟩ := g
 exact uq hw c d (a W) (h p h1)
end Go.Proofs.YtcafmokjkjcomaaGreat
namespace Go.Proofs.YtcafmokjkjcomaaGreat
open Go.RowKit
variable {dd : Bool}
theorem AG {P : Program} {n : Nat} {x : Code} {Q : gP} {E : Nat → Value} {W : World} (h : CW P n x (iE (fun E W => Q .normal E W) Q) E W) : CW P n x Q E W :=
 ua h (fun e E W h => by cases e <;> exact h)
section
variable {P : Program} {n : Nat} {Q : gP} {E : Nat → Value} {W : World} {d : Option Nat} {ty : TypeId} {pos : String} {af : Array Edge} {g : Option (Nat × Bool)}
 {F : Nat → Prop} {w : World} {μ : fz} {L : List (Nat × Obj)}
def Aa (k : IntKind) (op : BinOp) (a b : Int) : Option Value :=
 match op with
 | .quo => some (.int k (k.wrap (a.tdiv b)))
 | .rem => some (.int k (a.tmod b))
 | .and => some (.int k (k.wrap (BitVec.ofInt k.bits a &&& BitVec.ofInt k.bits b).toNat))
 | .or => some (.int k (k.wrap (BitVec.ofInt k.bits a ||| BitVec.ofInt k.bits b).toNat))
 | _ => none
theorem tJ {op : BinOp} {tx tv : TypeId} {x y : Operand} {k : IntKind} {a b : Int} {v : Value} (i : fc E x = .int k a) (j : fc E y = .int k b) (h : b ≠ 0) (c : Aa k op a b = some v) :
  fQ P E ⟨d, .binOp op tx x y tv, ty, pos, af, g⟩ W v W := by
 show (do let r ← (do eqGuard op tx x y (fc E x) (fc E y); binOp op tx (fc E x) (fc E y)); pure (.value r) : Sem Next).run P W = _
 rw [i, j]
 cases op <;> simp [Aa] at c <;> subst c <;> simp [eqGuard, binOp, Op.intDiv, Op.intBits, h]
theorem Ad {tx tv : TypeId} {x y : Operand} {k k' : IntKind} {a b : Int} (c : fc E x = .int k a) (h : fc E y = .int k' b) (i : 0 ≤ b) :
  fQ P E ⟨d, .binOp .shr tx x y tv, ty, pos, af, g⟩ W (.int k (a.fdiv (2 ^ min b.toNat k.bits))) W := by
 show (do let r ← (do eqGuard .shr tx x y (fc E x) (fc E y); binOp .shr tx (fc E x) (fc E y)); pure (.value r) : Sem Next).run P W = _
 rw [c, h]
 simp [eqGuard, binOp, Op.shift, show ¬ b < 0 by omega]
theorem lx {s t : TypeId} {x : Operand} {k k' : IntKind} {a : Int} {u : TypeDesc} (c : P.underlying s = some u) (h : P.underlying t = some (.int k)) (i : fc E x = .int k' a) :
  fQ P E ⟨d, .convert s t x, ty, pos, af, g⟩ W (.int k (k.wrap a)) W := by
 show (do pure (.value (← convert s t (fc E x))) : Sem Next).run P W = _
 rw [i]
 simp [convert, aC c, aC h, Conv.intToInt]
theorem uf {t e : TypeId} (dd : Nat) (a : P.underlying t = some (.slice e)) (A : Option Addr) (l c : Nat) (W : World) : (Op.equalIn (dd + 1) t (.slice A l c) (.slice none 0 0)).run P W = .ok A.isNone W := by
 cases A <;> simp [Op.equalIn, aC a]
theorem uw {tx tv e : TypeId} {x y : Operand} {A : Option Addr} {l c : Nat} (h : P.underlying tx = some (.slice e)) (i : fc E x = .slice A l c) (j : fc E y = .slice none 0 0) :
  fQ P E ⟨d, .binOp .eql tx x y tv, ty, pos, af, g⟩ W (.bool A.isNone) W := by
 show (do let r ← (do eqGuard .eql tx x y (fc E x) (fc E y); binOp .eql tx (fc E x) (fc E y)); pure (.value r) : Sem Next).run P W = _
 rw [i, j]
 have a := uf 9999 h A l c W
 simp [eqGuard, binOp, Op.equal, show Op.maxDepth = 9999 + 1 from rfl, a]
def jv (s : ByteArray) : List Int := s.data.toList.map (fun b => (b.toNat : Int))
def nZ (s : ByteArray) : Option (List Int) := if s.size ≤ maxLen then some (jv s) else none
theorem gM (s : ByteArray) : (jv s).length = s.size := by simp only [jv, cX, bG]; rfl
theorem xH {s : ByteArray} {cap i : Nat} {x : Int} (h : (jv s)[i]? = some x) : (bytesRow s cap)[i]? = some (.int .u8 x) := by
 have hi : i < s.size := by have := (aM.1 h).1; rwa [gM] at this
 have a : i < s.data.size := hi
 simp [jv] at h
 obtain ⟨b, c, rfl⟩ := h
 rw [bytesRow, Array.getElem?_append_left (by simpa using a)]
 simp [c]
theorem rH {K : Value → World → Prop} {s t e : TypeId} {x : Operand} {str : ByteArray} {l : List Int} (c : ST dd F w W μ L) (q : P.underlying s = some .string) (p : P.underlying t = some (.slice e)) (he : P.underlying e = some (.int .u8)) (n : fc E x = .string str) (a : nZ str = some l) (h : ∀ W' v μ', ST dd F w W' μ' L → fA μ μ' → Lo F w μ μ' → Sl (Pl (fl .u8)) 1 μ' v l → Fr w.heap.size v → K v W') : ic P E ⟨d, .convert s t x, ty, pos, af, g⟩ W K := by
 unfold nZ at a
 split at a
 case isFalse => cases a
 rename_i hm
 cases a
 have k := run_bytes_of_string (P := P) W s t e str q p he
 have h1 := c.drew.alloc (.cells (bytesRow str (grownCap W str.size 0 e)) e ((bytesRow str (grownCap W str.size 0 e)).size, (bytesRow str (grownCap W str.size 0 e)).size + 1))
 refine .inl ⟨.slice (some ⟨W.heap.size, 0, none⟩) str.size (grownCap W str.size 0 e), _, ?_, h _ _ _ (ST.rY (A := []) h1) (ST.rW (A := []) h1) (ST.vS (A := []) h1) ?_ ?_⟩
 ·show (do pure (.value (← convert s t (fc E x))) : Sem Next).run P W = _
  rw [n]
  simp only [bh, k, aN, bN]
 ·refine ⟨_, grownCap W str.size 0 e, by rw [gM], by rw [gM]; exact grownCap_ge W str.size 0 e, grownCap_le_maxLen W str.size 0 e hm, fun _ => ⟨W.heap.size, 0, bytesRow str (grownCap W str.size 0 e), e, _, rfl, aB rfl, fun i x n => ⟨_, rfl, rfl, fun j y o => ?_⟩⟩⟩
  cases j with
  | zero => simp [fl] at o; subst o; simpa using xH n
  | succ j => simp [fl] at o
 ·intro b a
  simp [Value.ownBlock] at a
  subst a
  exact c.size
def jo (l : List Int) : ByteArray := l.foldl (fun r n => r.push (UInt8.ofNat n.toNat)) ByteArray.empty
theorem lH {s t e : TypeId} {x : Operand} {v : Value} {l : List Int} (D : P.underlying s = some (.slice e)) (he : P.underlying e = some (.int .u8)) (z : P.underlying t = some .string) (G : fc E x = v) (F : Sl (Pl (fl .u8)) 1 (hp W) v l) :
  fQ P E ⟨d, .convert s t x, ty, pos, af, g⟩ W (.string (jo l)) W := by
 show (do pure (.value (← convert s t (fc E x))) : Sem Next).run P W = _
 obtain ⟨A, c, rfl, I, J, q⟩ := F
 rw [G]
 simp only [bh, run_convert_bytes_string W s t e A l.length c D he z]
 rcases cz l.length with h | h
 ·have : l = [] := bX.1 h
  subst this
  cases A with
  | none => simp [Conv.bytesToString, jo]
  | some a =>
   have u := run_bytesToString (P := P) W a 0 c [] (by simpa using ec (P := P) W a [] (by simp))
   simp only [bw]
   rw [u]
   simp [jo]
 ·obtain ⟨b, off, cs, T, fr, rfl, w, y⟩ := q h
  have p := ec (P := P) W ⟨b, off, none⟩ (l.map (Value.int .u8)) (fun j v o => by
   simp at o
   obtain ⟨x, k, rfl⟩ := o
   obtain ⟨ys, _, n, i⟩ := y j x k
   cases n
   rw [cu, en W b (off + j) cs T fr w]
   have := i 0 (.int .u8 x) rfl
   simpa using this)
  simp only [cX] at p
  rw [run_bytesToString W _ l.length c l p]
  simp [jo]
end
end Go.Proofs.YtcafmokjkjcomaaGreat
namespace Go.Proofs.YtcafmokjkjcomaaGreat
open Go.RowKit
variable {dd : Bool}
def keys (L : List (Nat × Obj)) : Nat → Prop := fun b => ∃ o, (b, o) ∈ L
structure CF (dd : Bool) (F : Nat → Prop) (w W : World) : Prop where
 os : W.os = w.os
 tape : W.tape = w.tape
 output : W.output = w.output
 drawn : kP dd w.drawn W.drawn
 size : w.heap.size ≤ W.heap.size
 jZ : ∀ b, b < w.heap.size → ¬ F b → W.heap[b]? = w.heap[b]?
def qC (L : List (Nat × Obj)) (W : World) : Prop := ∀ b o, (b, o) ∈ L → W.heap[b]? = some o
structure jg (dd : Bool) (L0 L1 : List (Nat × Obj)) (w w' : World) : Prop where
 ex : CF dd (keys L0) w w'
 held : ∀ b o, (b, o) ∈ L1 → w'.heap[b]? = some o ∧ (w.heap.size ≤ b ∨ keys L0 b)
 nd : (L1.map (·.1)).Nodup
open Classical in
noncomputable def jy (w : World) (L : List (Nat × Obj)) : fz := fun b => if keys L b then none else w.heap[b]?
open Classical in
noncomputable def pD (μ : fz) (W W' : World) (L1 : List (Nat × Obj)) : fz := fun b => if b < W.heap.size then μ b else if keys L1 b then none else W'.heap[b]?
section
variable {F : Nat → Prop} {w W W' : World} {μ μ' : fz} {L L0 L1 : List (Nat × Obj)}
theorem ST.Bg (a : qC L0 w) (c : (L0.map (·.1)).Nodup) : ST dd (keys L0) w w (jy w L0) L0 :=
 ⟨rfl, rfl, rfl, kP.of (aQ _), aQ _, fun _ _ _ => rfl, fun b o h => by
  unfold jy at h; split at h
  ·cases h
  ·exact h, fun b o h => ⟨a b o h, by unfold jy; rw [aB ⟨o, h⟩], .inr ⟨o, h⟩⟩, c⟩
theorem ST.AT (h : ST dd (keys L0) w W μ L1) : jg dd L0 L1 w W :=
 ⟨⟨h.os, h.tape, h.output, h.drawn, h.size, h.jZ⟩, fun b o a => ⟨(h.box b o a).1, (h.box b o a).2.2⟩, h.nd⟩
theorem sb {A B : List (Nat × Obj)} (h : ((A ++ B).map (·.1)).Nodup) {b : Nat} {o : Obj} (a : (b, o) ∈ B) : ¬ keys A b := by
 rintro ⟨d, c⟩
 rw [bo] at h
 exact (bn.1 h).2.2 b (aS.2 ⟨_, c, rfl⟩) b (aS.2 ⟨_, a, rfl⟩) rfl
theorem ST.back (h : ST dd F w W μ (L0 ++ L)) (j : jg dd L0 L1 W W') : ST dd F w W' (pD μ W W' L1) (L1 ++ L) := by
 have hk : ∀ b, keys L0 b → b < W.heap.size ∧ μ b = none ∧ (w.heap.size ≤ b ∨ F b) := fun b ⟨o, d⟩ => by
  obtain ⟨h1, g, p⟩ := h.box b o (bc _ d)
  exact ⟨gO h1, g, p⟩
 refine ⟨j.ex.os.trans h.os, j.ex.tape.trans h.tape, j.ex.output.trans h.output, kP.trans h.drawn j.ex.drawn, bI h.size j.ex.size, fun b i q => ?_, fun b o d => ?_, fun b o d => ?_, ?_⟩
 ·rw [j.ex.jZ b (bK i h.size) (fun k => by
   rcases (hk b k).2.2 with h | h
   ·omega
   ·exact q h)]
  exact h.jZ b i q
 ·unfold pD at d
  split at d
  ·rename_i i
   rw [j.ex.jZ b i (fun k => by rw [(hk b k).2.1] at d; cases d)]
   exact h.mem b o d
  ·split at d
   ·cases d
   ·exact d
 ·rcases aY.1 d with d | d
  ·obtain ⟨h1, g⟩ := j.held b o d
   refine ⟨h1, ?_, ?_⟩
   ·unfold pD
    split
    ·rename_i i
     rcases g with g | g
     ·omega
     ·exact (hk b g).2.1
    ·rw [aB ⟨o, d⟩]
   ·rcases g with g | g
    ·exact .inl (bI h.size g)
    ·exact (hk b g).2.2
  ·obtain ⟨h1, g, p⟩ := h.box b o (bR _ d)
   refine ⟨?_, ?_, p⟩
   ·rw [j.ex.jZ b (gO h1) (sb h.nd d)]; exact h1
   ·unfold pD; rw [aB (gO h1)]; exact g
 ·rw [bo]
  have t : (L.map (·.1)).Nodup := by have := h.nd; rw [bo] at this; exact (bn.1 this).2.1
  refine bn.2 ⟨j.nd, t, fun a ha c u e => ?_⟩
  subst e
  obtain ⟨⟨b, o⟩, d, rfl⟩ := aS.1 ha
  obtain ⟨⟨s, v⟩, n, e⟩ := aS.1 u
  simp at e; subst e
  have i := h.ta (bR _ n)
  rcases (j.held s o d).2 with g | g
  ·omega
  ·exact sb h.nd n g
theorem ST.vK (h : ST dd F w W μ L) (W' : World) (L1 : List (Nat × Obj)) : Lo F w μ (pD μ W W' L1) := fun b a _ => aB (bK a h.size)
theorem ST.ux (h : ST dd F w W μ L) (W' : World) (L1 : List (Nat × Obj)) : fA μ (pD μ W W' L1) := fun b o a => by
 unfold pD; rw [aB (h.rX a)]; exact a
theorem ST.fK (h : ST dd F w W μ L) (c : ∀ p, p ∈ L0 → p ∈ L) : fA μ (jy W L0) := fun b o a => by
 unfold jy
 rw [aA]
 ·exact h.mem b o a
 ·rintro ⟨g, d⟩
  rw [(h.box b g (c _ d)).2.1] at a
  cases a
theorem jg.uY (h : Ex dd w W) (c : ∀ b o, (b, o) ∈ L1 → W.heap[b]? = some o ∧ w.heap.size ≤ b) (d : (L1.map (·.1)).Nodup) : jg dd [] L1 w W :=
 ⟨⟨h.os, h.tape, h.output, h.drawn, h.size, fun b a _ => h.jZ b a⟩, fun b o a => ⟨(c b o a).1, .inl (c b o a).2⟩, d⟩
end
def gq (dd : Bool) (P : Program) (f : FuncId) (args : List Value) (w : World) (L0 : List (Nat × Obj)) (K : Value → List (Nat × Obj) → World → Prop) : Prop :=
 Calls P f args.toArray w fun e a => ∃ v L1, e = .returned v ∧ jg dd L0 L1 w a ∧ K v L1 a
def gY (dd : Bool) {α : Type} (P : Program) (f : FuncId) (args : List Value) (w : World) (e : TypeId) (enc : α → List Value) (k : Nat) (l : List α) : Prop :=
 gq dd P f args w [] fun v R _ => fN e enc k v l R
theorem jg.gW {L0 L1 : List (Nat × Obj)} {w a : World} (h : jg true L0 L1 w a) : jg dd L0 L1 w a := ⟨⟨h.ex.os, h.ex.tape, h.ex.output, kP.of (h.ex.drawn rfl), h.ex.size, h.ex.jZ⟩, h.held, h.nd⟩
theorem fV.gW {P : Program} {f : FuncId} {args : List Value} {w : World} {v : Value} (h : fV true P f args w v) : fV dd P f args w v := bp h fun _ _ h => ⟨h.1, h.2.gW⟩
theorem gq.gW {P : Program} {f : FuncId} {args : List Value} {w : World} {L0 : List (Nat × Obj)} {K : Value → List (Nat × Obj) → World → Prop} (h : gq true P f args w L0 K) : gq dd P f args w L0 K := bp h fun _ _ ⟨v, L1, h1, a, c⟩ => ⟨v, L1, h1, a.gW, c⟩
theorem gY.gW {α : Type} {P : Program} {f : FuncId} {args : List Value} {w : World} {e : TypeId} {enc : α → List Value} {k : Nat} {l : List α} (h : gY true P f args w e enc k l) : gY dd P f args w e enc k l := gq.gW h
section
variable {P : Program} {E : Nat → Value} {W : World} {d : Option Nat} {ty : TypeId} {pos : String} {af : Array Edge} {g : Option (Nat × Bool)}
 {F : Nat → Prop} {w : World} {μ : fz} {L : List (Nat × Obj)}
theorem zf {K : Value → World → Prop} {K' : Value → List (Nat × Obj) → World → Prop} {f : FuncId} {fv : Operand} {ax : Array Operand} {ats : Array TypeId} {caps : Array Value} {args : List Value} (L0 L2 : List (Nat × Obj)) (a : ST dd F w W μ L) (c : L.Perm (L0 ++ L2)) (n : fc E fv = .func (.func f) #[] caps) (he : ∀ args w, (callFunc f args).run P w = .ok (.enter f args) w) (ha : ax.map (fc E) ++ caps = args.toArray) (k : gq dd P f args W L0 K') (h : ∀ W' v μ' L1, ST dd F w W' μ' (L1 ++ L2) → fA μ μ' → Lo F w μ μ' → K' v L1 W' → K v W') : ic P E ⟨d, .call ⟨.value fv, ax, ats⟩, ty, pos, af, g⟩ W K :=
 sa n he ha (bp k (fun _ W' ⟨v, L1, h1, i, j⟩ => ⟨v, h1, h W' v _ L1 ((a.perm c).back i) ((a.perm c).ux W' L1) ((a.perm c).vK W' L1) j⟩))
theorem xI {K : Value → World → Prop} {α : Type} {e : TypeId} {enc : α → List Value} {k : Nat} {l : List α} {f : FuncId} {fv : Operand} {ax : Array Operand} {ats : Array TypeId} {caps : Array Value} {args : List Value} (X Y : List (Nat × Obj)) (a : ST dd F w W μ (X ++ Y)) (o : fc E fv = .func (.func f) #[] caps) (he : ∀ args w, (callFunc f args).run P w = .ok (.enter f args) w) (ha : ax.map (fc E) ++ caps = args.toArray) (n : gY dd P f args W e enc k l) (h : ∀ W' v μ' R, ST dd F w W' μ' (X ++ (R ++ Y)) → fA μ μ' → Lo F w μ μ' → fN e enc k v l R → K v W') : ic P E ⟨d, .call ⟨.value fv, ax, ats⟩, ty, pos, af, g⟩ W K :=
 zf [] (X ++ Y) a (.refl _) o he ha n (fun W' v μ' L1 h1 c j i => h W' v μ' L1 (h1.perm (by rw [← aR, ← aR]; exact List.perm_append_comm.append_right Y)) c j i)
end
theorem ST.kB {w W : World} {μ : fz} {L R : List (Nat × Obj)} (h : ST dd ga w W μ L) (a : ∀ p, p ∈ R → p ∈ L) (d : (R.map (·.1)).Nodup) : jg dd [] R w W :=
 jg.uY h.ex (fun b o c => ⟨(h.box b o (a _ c)).1, by
  rcases (h.box b o (a _ c)).2.2 with h | h
  ·exact h
  ·exact h.elim⟩) d
theorem ow {P : Program} {E : Nat → Value} {W : World} {d : Option Nat} {ty : TypeId} {pos : String} {af : Array Edge} {g : Option (Nat × Bool)} {α : Type} {e' : TypeId} {enc : α → List Value} {k : Nat} {v : Value} {l : List α} {R : List (Nat × Obj)} {x : Operand} {t e : TypeId} (a : P.underlying t = some (.slice e)) (i : fc E x = v) (h : fN e' enc k v l R) : fQ P E ⟨d, .call ⟨.builtin .len, #[x], #[t]⟩, ty, pos, af, g⟩ W (.int .i64 l.length) W := by
 obtain ⟨A, c, rfl⟩ := h.form
 exact uk a i
section
variable {α : Type} {e : TypeId} {enc : α → List Value} {k : Nat} {v : Value} {l : List α} {R : List (Nat × Obj)}
theorem fN.nd (h : fN e enc k v l R) : (R.map (·.1)).Nodup := by
 rcases h with ⟨rfl, rfl, rfl⟩ | ⟨g, cap, a, rfl, rfl, _⟩ <;> simp
end
end Go.Proofs.YtcafmokjkjcomaaGreat
namespace Go.Proofs.YtcafmokjkjcomaaGreat
open Go.RowKit
variable {dd : Bool}
def rj (R : List (Nat × Obj)) (k : Nat) (p : Value) (i : Nat) : Prop := ∃ g o, R = [(g, o)] ∧ p = .pointer (some ⟨g, i * k, none⟩)
section
variable {P : Program} {E : Nat → Value} {W : World} {d : Option Nat} {ty : TypeId} {pos : String} {af : Array Edge} {g : Option (Nat × Bool)}
 {F : Nat → Prop} {w : World} {μ : fz} {L : List (Nat × Obj)} {α : Type} {e' : TypeId} {enc : α → List Value} {k : Nat} {v : Value} {l : List α} {R : List (Nat × Obj)}
theorem na {t e : TypeId} {x c : Operand} {z : IntKind} {i : Int} {x0 : α} (u : P.underlying t = some (.slice e)) (he : ∀ w, (sizeOf e).run P w = .ok k w) (y : fc E x = v) (hi : fc E c = .int z i) (h : fN e' enc k v l R) (o : 0 ≤ i) (s : l[i.toNat]? = some x0) :
  ∃ p, rj R k p i.toNat ∧ ∀ W, fQ P E ⟨d, .indexAddr t x c, ty, pos, af, g⟩ W p W := by
 have a : i.toNat < l.length := (aM.1 s).1
 rcases h with ⟨rfl, rfl, rfl⟩ | ⟨n, cap, j, rfl, rfl, h1, A, D, F⟩
 ·simp at a
 refine ⟨.pointer (some ⟨n, i.toNat * k, none⟩), ⟨_, _, rfl, rfl⟩, fun W => ?_⟩
 show (do pure (.value (← Instr.indexAt t (fc E x) (fc E c))) : Sem Next).run P W = _
 rw [y, hi]
 have q : 0 ≤ i ∧ i < (l.length : Int) := ⟨o, by omega⟩
 simp [Instr.indexAt, asIntOf, aC u, he W, q, cu]
theorem qy (h : fN e' enc k v l R) (hk : ∀ x, (enc x).length = k) {p : Value} {i : Nat} (hp : rj R k p i) {x0 : α} (q : l[i]? = some x0) :
  ∃ g a cap, R = [(g, .cells a e' (0, 0))] ∧ v = .slice (some ⟨g, 0, none⟩) l.length cap ∧ l.length ≤ cap ∧ cap ≤ maxLen ∧ a.size = cap * k ∧ a.toList.take (l.length * k) = (l.map enc).flatten ∧ p = .pointer (some ⟨g, i * k, none⟩) ∧ ∀ j y, (enc x0)[j]? = some y → a[i * k + j]? = some y := by
 have d : i < l.length := (aM.1 q).1
 rcases h with ⟨rfl, rfl, rfl⟩ | ⟨t, cap, a, rfl, rfl, h1, u, w, n⟩
 ·simp at d
 obtain ⟨g2, o, s, rfl⟩ := hp
 cases s
 refine ⟨t, a, cap, rfl, rfl, h1, u, w, n, rfl, fun j y z => ?_⟩
 have := nC hk l i x0 q j y z
 rw [← n] at this
 have c : i * k + j < l.length * k := by
  have := (aM.1 this).1
  simp at this; omega
 rw [cN c] at this
 simpa using this
theorem oy {A : List (Nat × Obj)} (hH : lJ μ A W) (d : ∀ q, q ∈ R → q ∈ A) (h : fN e' enc k v l R) (hk : ∀ x, (enc x).length = k) {p : Value} {i : Nat} (hp : rj R k p i) {x0 : α} (n : l[i]? = some x0) {t : TypeId} (g : ∀ w, (isAgg t).run P w = .ok true w) (j : ∀ w, (sizeOf t).run P w = .ok k w) : (Instr.loadAt t p).run P W = .ok (.agg (enc x0).toArray) W := by
 obtain ⟨o, a, cap, rfl, rfl, _, _, _, _, rfl, c⟩ := qy h hk hp n
 exact pY g (enc x0) (by rw [hk]; exact j) (hH.2 _ _ (d _ (aV.2 rfl))) c
theorem sE (hk : ∀ x, (enc x).length = k) : ∀ (l : List α) (i : Nat) (y : α), i < l.length → ((l.set i y).map enc).flatten = (l.map enc).flatten.take (i * k) ++ enc y ++ (l.map enc).flatten.drop (i * k + k)
 | [], i, y, h => by simp at h
 | z :: l, 0, y, h => by
  simp [hk]
 | z :: l, i + 1, y, h => by
  have := sE hk l i y (by simpa using h)
  simp only [List.set_cons_succ, aT, bJ, this]
  have h1 : (i + 1) * k = (enc z).length + i * k := by rw [hk, bz]; omega
  rw [h1, dW, dv, List.drop_length_add_append]
  simp
theorem xN {K : Value → World → Prop} (X : List (Nat × Obj)) {Y : List (Nat × Obj)} {t : TypeId} {x y : Operand} {p u : Value} {i : Nat} {x0 x1 : α} (j : ST dd F w W μ (X ++ (R ++ Y))) (h : fN e' enc k v l R) (hk : ∀ x, (enc x).length = k) (h1 : ∀ x, ∀ u ∈ enc x, u.oneCell' = true) (U : fc E x = p) (Z : fc E y = u) (hu : u.cells = (enc x1).toArray) (hp : rj R k p i) (G : l[i]? = some x0) (Q : ∀ w, (sizeOf t).run P w = .ok k w) (O : ∀ W' R', ST dd F w W' μ (X ++ (R' ++ Y)) → fN e' enc k v (l.set i x1) R' → K undef W') : ic P E ⟨d, .store t x y, ty, pos, af, g⟩ W K := by
 have z : i < l.length := (aM.1 G).1
 obtain ⟨o, a, cap, rfl, rfl, D, L, s, M, rfl, h6⟩ := qy h hk hp G
 have hle : i * k + k ≤ cap * k := by
  have : (i + 1) * k ≤ cap * k := bt _ (by omega)
  rwa [bz, eT] at this
 have n : i * k + k ≤ l.length * k := by
  have : (i + 1) * k ≤ l.length * k := bt _ (by omega)
  rwa [bz, eT] at this
 have c : u.cells.size = k := by rw [hu]; simp [hk]
 have T := (j.box o (.cells a e' (0, 0)) (by simp)).1
 have hlen : l.length * k ≤ cap * k := bt _ D
 refine .inr (.inl ⟨W.setRow o (a.toList.take (i * k) ++ (enc x1) ++ a.toList.drop (i * k + k)).toArray, ?_, O _ [(o, .cells (a.toList.take (i * k) ++ (enc x1) ++ a.toList.drop (i * k + k)).toArray e' (0, 0))] (j.store _) (.inr ⟨o, cap, _, by simp, rfl, by simpa using D, L, ?_, ?_⟩)⟩)
 ·show (do Instr.storeAt t (fc E x) (fc E y); pure .skip : Sem Next).run P W = _
  rw [U, Z]
  have := qf P (off := i * k) u (by rw [c]; exact Q) (by rw [hu]; simpa using h1 x1) T (by rw [c, s]; exact hle)
  simp only [bh, this, aN, bN, c]
  rw [hu]
 ·show ((a.toList.take (i * k) ++ (enc x1) ++ a.toList.drop (i * k + k)).toArray).size = _
  have q : a.toList.length = cap * k := by simpa using s
  rw [bQ, aK, aK, bx, dp, hk, q, bU (by omega)]; omega
 ·rw [dR, sE hk l i x1 z, ← M]
  have I : (a.toList.take (l.length * k)).take (i * k) = a.toList.take (i * k) := by rw [dD]; congr 1; omega
  have J : (a.toList.take (l.length * k)).drop (i * k + k) = (a.toList.drop (i * k + k)).take (l.length * k - (i * k + k)) := by rw [List.drop_take]
  rw [I, J]
  show List.take (l.length * k) (a.toList.take (i * k) ++ enc x1 ++ a.toList.drop (i * k + k)) = _
  have q : a.toList.length = cap * k := by simpa using s
  have A : (a.toList.take (i * k) ++ enc x1).length = i * k + k := by rw [aK, bx, hk, q, bU (by omega)]
  rw [dK, cd (by rw [A]; exact n), A]
theorem rL (hk : ∀ x, (enc x).length = k) : ∀ (l : List α) (i : Nat), i ≤ l.length → ((l.take i).map enc).flatten = (l.map enc).flatten.take (i * k)
 | [], i, h => by simp
 | z :: l, 0, h => by simp
 | z :: l, i + 1, h => by
  have := rL hk l i (by simpa using h)
  simp only [List.take_succ_cons, aT, bJ, this]
  rw [show (i + 1) * k = (enc z).length + i * k by rw [hk, bz]; omega, dW]
theorem uA {t e : TypeId} {x ih : Operand} {F : IntKind} {i : Int} (n : P.underlying t = some (.slice e)) (he : ∀ w, (sizeOf e).run P w = .ok k w) (o : fc E x = v) (hi : fc E ih = .int F i) (h : fN e' enc k v l R) (hk : ∀ x, (enc x).length = k) (s : 0 ≤ i) (D : i ≤ l.length) :
  ∃ p, fN e' enc k p (l.take i.toNat) R ∧ ∀ W, fQ P E ⟨d, .slice t x none (some ih) none, ty, pos, af, g⟩ W p W := by
 have a : i.toNat ≤ l.length := by omega
 rcases h with ⟨rfl, rfl, rfl⟩ | ⟨j, cap, c, rfl, rfl, h1, u, y, z⟩
 ·have : i = 0 := by simp at D; omega
  subst this
  refine ⟨.slice none 0 0, .inl ⟨rfl, by simp, rfl⟩, fun W => ?_⟩
  show (do pure (.value (← Instr.sliceAt t (fc E x) none (some (fc E ih)) none)) : Sem Next).run P W = _
  rw [o, hi]
  simp [Instr.sliceAt, Instr.slice, Instr.sliceBounds, Instr.sliceBound, asIntOf, aC n, he W]
 ·refine ⟨.slice (some ⟨j, 0, none⟩) (l.take i.toNat).length cap, .inr ⟨j, cap, c, rfl, rfl, by simp; omega, u, y, ?_⟩, fun W => ?_⟩
  ·have q : (l.take i.toNat).length = i.toNat := by rw [bx]; omega
   have hle : i.toNat * k ≤ l.length * k := bt _ a
   rw [q, rL hk l i.toNat a, ← z, dD, bU hle]
  ·show (do pure (.value (← Instr.sliceAt t (fc E x) none (some (fc E ih)) none)) : Sem Next).run P W = _
   rw [o, hi]
   have A : 0 ≤ i ∧ i ≤ (cap : Int) := ⟨s, by omega⟩
   simp [Instr.sliceAt, Instr.slice, Instr.sliceBounds, Instr.sliceBound, asIntOf, aC n, he W, A, cu]
   omega
theorem sy {z : jT α} {t e : TypeId} {x s : Operand} {Y : IntKind} {i : Int} (R : P.underlying t = some (.slice e)) (he : ∀ w, (sizeOf e).run P w = .ok k w) (o : fc E x = v) (hi : fc E s = .int Y i) (h : Sl z k μ v l) (D : 0 ≤ i) (M : i ≤ l.length) :
  ∃ u, (Sl z k μ u (l.drop i.toNat) ∧ ∀ B, Fr B v → Fr B u) ∧ ∀ W, fQ P E ⟨d, .slice t x (some s) none none, ty, pos, af, g⟩ W u W := by
 obtain ⟨A, c, rfl, h2, h3, F⟩ := h
 have O : i.toNat ≤ l.length := by omega
 refine ⟨.slice (if c = i.toNat then A else A.map (·.add (i.toNat * k))) (l.drop i.toNat).length (c - i.toNat), ⟨⟨_, _, rfl, by simp; omega, by omega, fun hp => ?_⟩, fun B L b n => ?_⟩, fun W => ?_⟩
 ·have Q : i.toNat < l.length := by simp at hp; omega
  obtain ⟨b, off, cs, T, fr, rfl, G, I⟩ := F (by omega)
  refine ⟨b, off + i.toNat * k, cs, T, fr, ?_, G, fun j x o => ?_⟩
  ·rw [aA (by omega)]; simp [cu]
  ·rw [ct] at o
   obtain ⟨ys, J, K, p⟩ := I _ x o
   refine ⟨ys, J, K, fun q y U => ?_⟩
   have := p q y U
   rw [bz] at this
   rw [show off + i.toNat * k + j * k + q = off + (i.toNat * k + j * k) + q by omega]
   exact this
 ·refine L b ?_
  cases A with
  | none => simp [Value.ownBlock] at n
  | some a =>
   split at n
   ·exact n
   ·obtain ⟨b', o', Z⟩ := a
    cases Z <;> simp [Value.ownBlock, Addr.add] at n ⊢ <;> split at n <;> exact n
 ·show (do pure (.value (← Instr.sliceAt t (fc E x) (some (fc E s)) none none)) : Sem Next).run P W = _
  rw [o, hi]
  have n : 0 ≤ i ∧ i ≤ (l.length : Int) := ⟨D, M⟩
  simp [Instr.sliceAt, Instr.slice, Instr.sliceBounds, Instr.sliceBound, asIntOf, aC R, he W, n]
end
end Go.Proofs.YtcafmokjkjcomaaGreat
namespace Go.Proofs.YtcafmokjkjcomaaGreat
open Go.RowKit
variable {dd : Bool}
section
variable {α : Type} {e : TypeId} {enc : α → List Value} {k : Nat} {v : Value} {l : List α} {R : List (Nat × Obj)} {μ : fz}
theorem fN.one (h : fN e enc k v l R) : v.oneCell' = true := by obtain ⟨A, c, rfl⟩ := h.form; rfl
theorem Sl.one {a : jT α} (h : Sl a k μ v l) : v.oneCell' = true := by obtain ⟨A, c, rfl⟩ := h.form; rfl
theorem Sl.isNil {d : jT α} {n c : Nat} (h : Sl d k μ (.slice none n c) l) : l = [] := by
 obtain ⟨A, j, h1, o, p, g⟩ := h
 cases h1
 rcases cz l.length with a | a
 ·exact bX.1 a
 ·obtain ⟨b, off, cs, T, fr, i, _⟩ := g a
  cases i
theorem fN.isNil {n c : Nat} (h : fN e enc k (.slice none n c) l R) : l = [] := by
 rcases h with ⟨h1, rfl, rfl⟩ | ⟨g, cap, a, h1, _⟩
 ·rfl
 ·cases h1
theorem ST.B2 {w W : World} {μ : fz} {L1 L2 : List (Nat × Obj)} (h : ST dd ga w W μ (L1 ++ L2)) : jg dd [] L1 w W :=
 jg.uY h.ex (fun b o a => ⟨(h.box b o (bc _ a)).1, by
  rcases (h.box b o (bc _ a)).2.2 with h | h
  ·exact h
  ·exact h.elim⟩) (by have := h.nd; rw [bo] at this; exact (bn.1 this).1)
theorem ST.BL {w W : World} {μ : fz} {L0 L1 L2 : List (Nat × Obj)} (h : ST dd (keys L0) w W μ (L1 ++ L2)) : jg dd L0 L1 w W :=
 ⟨⟨h.os, h.tape, h.output, h.drawn, h.size, h.jZ⟩, fun b o a => ⟨(h.box b o (bc _ a)).1, (h.box b o (bc _ a)).2.2⟩, by have := h.nd; rw [bo] at this; exact (bn.1 this).1⟩
end
end Go.Proofs.YtcafmokjkjcomaaGreat
namespace Go.Proofs.YtcafmokjkjcomaaGreat
open Go.RowKit
variable {dd : Bool}
def iu {κ β : Type} (beq : κ → κ → Bool) (l : List (κ × β)) (k : κ) : Option β := (l.find? (fun p => beq k p.1)).map (·.2)
def mC {κ β : Type} (beq : κ → κ → Bool) (l : List (κ × β)) (k : κ) (v : β) : List (κ × β) :=
 match l.findIdx? (fun p => beq k p.1) with
 | some i => l.set i (k, v)
 | none => l ++ [(k, v)]
structure lX {κ β : Type} (kenc : κ → Value) (vf : β → Value) (l : List (κ × β)) (es : Array MapEntry) (clock : Nat) : Prop where
 pQ : es.toList.map (fun e => (e.key, e.val)) = l.map (fun p => (kenc p.1, vf p.2))
 born : es.toList.Pairwise (fun a b => a.born < b.born)
 lt : ∀ e ∈ es.toList, e.born < clock
def kj {κ β : Type} (kenc : κ → Value) (vf : β → Value) (v : Value) (l : List (κ × β)) (R : List (Nat × Obj)) : Prop :=
 ∃ m es clock, v = .map (some m) ∧ R = [(m, .map es clock)] ∧ lX kenc vf l es clock
def my {κ β : Type} (kenc : κ → Value) (vf : β → Value) (μ : fz) (v : Value) (l : List (κ × β)) : Prop :=
 (v = .map none ∧ l = []) ∨ ∃ m es clock, v = .map (some m) ∧ μ m = some (.map es clock) ∧ lX kenc vf l es clock
theorem my.mono {κ β : Type} {kenc : κ → Value} {vf : β → Value} {μ μ' : fz} {v : Value} {l : List (κ × β)} (h : my kenc vf μ v l) (d : fA μ μ') : my kenc vf μ' v l := by
 rcases h with h | ⟨m, es, clock, h1, a, c⟩
 ·exact .inl h
 ·exact .inr ⟨m, es, clock, h1, d _ _ a, c⟩
theorem kj.at {κ β : Type} {kenc : κ → Value} {vf : β → Value} {μ : fz} {v : Value} {l : List (κ × β)} {R : List (Nat × Obj)} (h : kj kenc vf v l R) (c : ∀ b o, (b, o) ∈ R → μ b = some o) : my kenc vf μ v l := by
 obtain ⟨m, es, clock, rfl, rfl, a⟩ := h
 exact .inr ⟨m, es, clock, rfl, c _ _ (aV.2 rfl), a⟩
structure mN {κ : Type} (P : Program) (kt : TypeId) (kenc : κ → Value) (beq : κ → κ → Bool) : Prop where
 check : ∀ b k W, (Instr.checkKey b 10000 kt (kenc k)).run P W = .ok () W
 find : ∀ (k : κ) (l : List κ) (es : List MapEntry), es.map (·.key) = l.map kenc → ∀ W, (Instr.findKey kt (kenc k) es).run P W = .ok ((l.findIdx? (fun x => beq k x)).bind fun i => (es[i]?).map fun e => (i, e.val)) W
 eq : ∀ k x, beq k x = true → kenc x = kenc k
 bits : ∀ k, Instr.sameBits 10000 (kenc k) (kenc k) = true
section
variable {P : Program} {W : World} {κ : Type} {kt : TypeId} {kenc : κ → Value} {beq : κ → κ → Bool}
theorem qp (a : ∀ x y W, (Op.equal kt (kenc x) (kenc y)).run P W = .ok (beq x y) W) (k : κ) : ∀ (l : List κ) (es : List MapEntry) (i : Nat), es.map (·.key) = l.map kenc →
  (Instr.findAsking kt (kenc k) es i).run P W = .ok ((l.findIdx? (fun x => beq k x)).bind fun j => (es[j]?).map fun e => (i + j, e.val)) W
 | [], [], i, h => by simp [Instr.findAsking]
 | [], _ :: _, i, h => by simp at h
 | _ :: _, [], i, h => by simp at h
 | x :: l, e :: es, i, h => by
  simp only [aT, bM] at h
  obtain ⟨h1, c⟩ := h
  simp only [Instr.findAsking, bh, h1, a, aN, ed]
  cases d : beq k x with
  | true => simp
  | false =>
   simp only [ay, aI]
   rw [qp a k l es (i + 1) c]
   cases l.findIdx? (fun x => beq k x) with
   | none => rfl
   | some j => simp [dv, eE 1 j]
theorem wH {kind : TypeDesc} (hk : ∀ a b, Instr.sameNow kind (.agg a) b = none) (a : Array Value) : ∀ (es : List MapEntry) (i : Nat), Instr.findNow kind (.agg a) es i = if es = [] then some none else none
 | [], i => by simp [Instr.findNow]
 | e :: es, i => by simp [Instr.findNow, hk]
theorem mN.struct {enc : κ → List Value} {i : Array Field} (p : P.underlying kt = some (.struct i)) (o : ∀ d x y W, (Op.equalIn (d + 10) kt (.agg (enc x).toArray) (.agg (enc y).toArray)).run P W = .ok (beq x y) W) (n : ∀ b k W, (Instr.checkKey b 10000 kt (.agg (enc k).toArray)).run P W = .ok () W) (he : ∀ k x, beq k x = true → x = k) (j : ∀ k, Instr.sameBits 10000 (.agg (enc k).toArray) (.agg (enc k).toArray) = true) : mN P kt (fun x => .agg (enc x).toArray) beq where
 check := n
 find := fun k l es h W => by
  have c : ∀ x y W, (Op.equal kt (.agg (enc x).toArray) (.agg (enc y).toArray)).run P W = .ok (beq x y) W := fun x y W => o 9990 x y W
  simp only [Instr.findKey, bh, aC p, aN]
  rw [wH (fun a b => by cases b <;> rfl)]
  by_cases g : es = []
  ·subst g
   have : l = [] := by simpa using h.symm
   subst this
   simp
  ·rw [aA g]
   dsimp only
   rw [show Instr.findAsking kt (.agg (enc k).toArray) es = Instr.findAsking kt (.agg (enc k).toArray) es 0 from rfl, qp c k l es 0 h]
   simp
 eq := fun k x h => by rw [he k x h]
 bits := j
theorem gz {a b : ByteArray} : fU a b = true ↔ a = b := by
 unfold fU
 rw [cO, cO]
 constructor
 ·intro h
  have h1 : a.data.toList = b.data.toList := by simpa using h
  exact ew (Array.toList_inj.1 h1)
 ·rintro rfl
  simp
theorem uu (a b : ByteArray) : (a == b) = fU a b := by
 rw [cH, gz]
 constructor
 ·intro h
  have h1 : (a.data == b.data) = true := h
  exact ew (by simpa using h1)
 ·rintro rfl
  show (a.data == a.data) = true
  simp
theorem qt (k : ByteArray) : ∀ (l : List ByteArray) (es : List MapEntry) (i : Nat), es.map (·.key) = l.map Value.string →
  Instr.findNow .string (.string k) es i = some ((l.findIdx? (fun x => fU k x)).bind fun j => (es[j]?).map fun e => (i + j, e.val))
 | [], [], i, h => by simp [Instr.findNow]
 | [], _ :: _, i, h => by simp at h
 | _ :: _, [], i, h => by simp at h
 | x :: l, e :: es, i, h => by
  simp only [aT, bM] at h
  obtain ⟨h1, a⟩ := h
  simp only [Instr.findNow, h1, Instr.sameNow, uu, ed]
  cases c : fU k x with
  | true => simp
  | false =>
   simp only [ay, aI]
   rw [qt k l es (i + 1) a]
   cases l.findIdx? (fun x => fU k x) with
   | none => rfl
   | some j => simp [dv, eE 1 j]
theorem tA (a : P.underlying kt = some .string) (n : Nat) (b : Bool) (k : ByteArray) (W : World) : (Instr.checkKey b (n + 1) kt (.string k)).run P W = .ok () W := by
 simp [Instr.checkKey, aC a]
theorem mN.string (a : P.underlying kt = some .string) : mN P kt Value.string fU where
 check := fun b k W => tA a 9999 b k W
 find := fun k l es h W => by
  simp only [Instr.findKey, bh, aC a, aN]
  have := qt k l es 0 h
  rw [this]
  simp
 eq := fun k x h => by rw [gz.1 h]
 bits := fun k => by simp only [Instr.sameBits]; rw [uu]; exact gz.2 rfl
variable {β : Type} {vf : β → Value} {E : Nat → Value} {d : Option Nat} {ty : TypeId} {pos : String} {af : Array Edge} {g : Option (Nat × Bool)} {F : Nat → Prop} {w : World} {μ : fz} {L : List (Nat × Obj)}
theorem lX.keys {l : List (κ × β)} {es : Array MapEntry} {clock : Nat} (h : lX kenc vf l es clock) : es.toList.map (·.key) = (l.map (·.1)).map kenc := by
 have := aH (List.map Prod.fst) h.pQ
 simpa [Function.comp_def] using this
theorem lX.length {l : List (κ × β)} {es : Array MapEntry} {clock : Nat} (h : lX kenc vf l es clock) : es.size = l.length := by
 have := aH List.length h.pQ
 simpa using this
theorem lX.get {l : List (κ × β)} {es : Array MapEntry} {clock : Nat} (h : lX kenc vf l es clock) (k : κ) :
  (((l.map (·.1)).findIdx? (fun x => beq k x)).bind fun i => (es.toList[i]?).map fun e => (i, e.val)) = (l.findIdx? (fun p => beq k p.1)).bind fun i => (l[i]?).map fun p => (i, vf p.2) := by
 rw [eo]
 show ((l.findIdx? (fun p => beq k p.1)).bind _) = _
 congr 1
 funext i
 have := aH (fun q => q[i]?) h.pQ
 simp only [cJ] at this
 cases h1 : es.toList[i]? with
 | none => rw [h1] at this; cases a : l[i]? with
  | none => rfl
  | some p => rw [a] at this; cases this
 | some e => rw [h1] at this; cases a : l[i]? with
  | none => rw [a] at this; cases this
  | some p => rw [a] at this; simp at this; simp [this.2]
theorem lT (l : List (κ × β)) (k : κ) : iu beq l k = (l.findIdx? (fun p => beq k p.1)).bind fun i => (l[i]?).map (·.2) := by
 induction l with
 | nil => rfl
 | cons p l ih =>
  simp only [iu, List.find?_cons, ed] at ih ⊢
  cases beq k p.1 with
  | true => rfl
  | false =>
   simp only [ay, aI]
   rw [ih]
   cases l.findIdx? (fun p => beq k p.1) <;> simp
theorem lp {l : List (κ × β)} {k : κ} {i : Nat} (h : l.findIdx? (fun p => beq k p.1) = some i) : ∃ p, l[i]? = some p ∧ beq k p.1 = true := by
 rw [List.findIdx?_eq_some_iff_getElem] at h
 obtain ⟨h1, a, _⟩ := h
 exact ⟨l[i], bD h1, a⟩
theorem lX.put {l : List (κ × β)} {es : Array MapEntry} {clock : Nat} (h : lX kenc vf l es clock) (k : κ) (v : β) :
  match l.findIdx? (fun p => beq k p.1) with
  | some i => lX kenc vf (l.set i (k, v)) (es.modify i fun e => { e with key := kenc k, val := vf v }) clock
  | none => lX kenc vf (l ++ [(k, v)]) (es.push { key := kenc k, val := vf v, born := clock }) (clock + 1) := by
 cases s : l.findIdx? (fun p => beq k p.1) with
 | none =>
  refine ⟨?_, ?_, ?_⟩
  ·simp [h.pQ]
  ·simp only [Array.toList_push, dO]
   exact ⟨h.born, by simp, fun a ha b o => by simp at o; subst o; exact h.lt a ha⟩
  ·intro e he
   simp at he
   rcases he with he | rfl
   ·exact Nat.lt_succ_of_lt (h.lt e (by simpa using he))
   ·exact bY _
 | some i =>
  obtain ⟨p, hp, _⟩ := lp s
  have hi : i < l.length := (aM.1 hp).1
  have c : (es.modify i fun e => { e with key := kenc k, val := vf v }).toList.map (·.born) = es.toList.map (·.born) := by
   apply cI
   intro j
   simp only [cJ, bH, cq]
   split
   ·cases es[j]? <;> simp
   ·rfl
  refine ⟨?_, ?_, ?_⟩
  ·apply cI
   intro j
   have g := aH (fun q => q[j]?) h.pQ
   simp only [cJ, bH] at g
   simp only [cJ, bH, cq, de]
   by_cases d : i = j
   ·subst d
    simp only [aO]
    rw [aB hi]
    cases t : es[i]? with
    | none => rw [t, hp] at g; cases g
    | some e => rfl
   ·rw [aA d, aA d]; exact g
  ·have := h.born
   rw [← dE (f := fun e : MapEntry => e.born) (R := (· < ·))] at this ⊢
   rw [c]; exact this
  ·intro e he
   have : e.born ∈ es.toList.map (·.born) := by rw [← c]; exact aS.2 ⟨e, he, rfl⟩
   obtain ⟨e', n, u⟩ := aS.1 this
   rw [← u]; exact h.lt e' n
theorem te {W : World} {r : Nat} {es : Array MapEntry} {c : Nat} (d : W.heap[r]? = some (.map es c)) (a : Obj) : (setObj r a).run P W = .ok () (ChangeMaps.setBlock W r a) := by
 simp [setObj, Sem.run, d, ChangeMaps.setBlock]
theorem ST.setBlock {A B : List (Nat × Obj)} {b : Nat} {o : Obj} (h : ST dd F w W μ (A ++ (b, o) :: B)) (c : Obj) : ST dd F w (ChangeMaps.setBlock W b c) μ (A ++ (b, c) :: B) := by
 have d := (h.box b o (by simp)).1
 have a := gO d
 refine h.put ⟨rfl, rfl, rfl, aQ _, by simp [ChangeMaps.setBlock]⟩ (fun k hk => ?_) ?_
 ·simp only [ChangeMaps.setBlock]
  rw [Array.getElem?_setIfInBounds_ne (fun e => hk e.symm)]
 ·simp only [ChangeMaps.setBlock]
  rw [Array.getElem?_setIfInBounds_self_of_lt a]
theorem wJ {I : Value → World → Prop} (X : List (Nat × Obj)) {Y R : List (Nat × Obj)} {t e : TypeId} {m x y : Operand} {G : Value} {l : List (κ × β)} {k : κ} {v : β} (K : mN P kt kenc beq) (M : P.underlying t = some (.map kt e)) (n : ST dd F w W μ (X ++ (R ++ Y))) (h : kj kenc vf G l R) (hm : fc E m = G) (Q : fc E x = kenc k) (T : fc E y = vf v) (L : ∀ W' R', ST dd F w W' μ (X ++ (R' ++ Y)) → kj kenc vf G (mC beq l k v) R' → I undef W') : ic P E ⟨d, .mapUpdate t m x y, ty, pos, af, g⟩ W I := by
 obtain ⟨c, es, clock, rfl, rfl, z⟩ := h
 have A : W.heap[c]? = some (.map es clock) := (n.box c (.map es clock) (by simp)).1
 have J : (getObj c : Sem Obj).run P W = .ok (.map es clock) W := by simp [getObj, Sem.run, A]
 have o := K.find k _ _ z.keys W
 rw [z.get k] at o
 have a := z.put (beq := beq) k v
 have j : ∀ W', (Instr.mapUpdate t (.map (some c)) (kenc k) (vf v)).run P W = .ok () W' → (execOp (fc E) ⟨d, .mapUpdate t m x y, ty, pos, af, g⟩).run P W = .ok .skip W' := by
  intro W' O
  show (do Instr.mapUpdate t (fc E m) (fc E x) (fc E y); pure .skip : Sem Next).run P W = _
  rw [hm, Q, T]
  simp [O]
 cases s : l.findIdx? (fun p => beq k p.1) with
 | none =>
  rw [s] at o a
  refine .inr (.inl ⟨ChangeMaps.setBlock W c (.map (es.push { key := kenc k, val := vf v, born := clock }) (clock + 1)), j _ ?_, L _ [(c, _)] (n.setBlock _) ⟨c, _, _, rfl, rfl, ?_⟩⟩)
  ·simp [Instr.mapUpdate, aC M, J, K.check, o, te A]
  ·rw [mC, s]; exact a
 | some i =>
  obtain ⟨p, hp, D⟩ := lp s
  rw [s] at o a
  simp only [aw, hp, dz] at o
  have u : ((es[i]?).map (·.key)).getD (kenc k) = kenc k := by
   have := aH (fun q => q[i]?) z.keys
   simp only [cJ, hp, dz, bH] at this
   rw [this]
   simp [K.eq k p.1 D]
  refine .inr (.inl ⟨ChangeMaps.setBlock W c (.map (es.modify i fun e => { e with key := kenc k, val := vf v }) clock), j _ ?_, L _ [(c, _)] (n.setBlock _) ⟨c, _, _, rfl, rfl, ?_⟩⟩)
  ·simp only [Instr.mapUpdate, bh, aC M, J, K.check, o, aN, u, Instr.keyThatStays, K.bits, aO, bN]
   exact te A _
  ·rw [mC, s]; exact a
theorem yq {c : Value → World → Prop} {t : TypeId} (kenc : κ → Value) (vf : β → Value) (a : ST dd F w W μ L) (h : ∀ W' v R, ST dd F w W' μ (R ++ L) → kj kenc vf v [] R → c v W') : ic P E ⟨d, .makeMap t none, ty, pos, af, g⟩ W c :=
 .inl ⟨.map (some W.heap.size), W.alloc (.map #[] 0), by
   show (do pure (.value (← Instr.makeMap t none)) : Sem Next).run P W = _
   simp [Instr.makeMap, newObj, Sem.run], h _ _ [(W.heap.size, .map #[] 0)] (a.alloc _) ⟨_, _, _, rfl, rfl, ⟨rfl, by simp, by simp⟩⟩⟩
end
end Go.Proofs.YtcafmokjkjcomaaGreat
namespace Go.Proofs.YtcafmokjkjcomaaGreat
open Go.RowKit
variable {dd : Bool}
def vt {α β : Type} (P : Program) (fv : Value) (μ : fz) (a : α → List Value) (c : β → Value) (pm : α → Option β) : Prop :=
 ∃ f caps, fv = .func (.func f) #[] caps ∧ (∀ args w, (callFunc f args).run P w = .ok (.enter f args) w) ∧ ∀ W x r, fA μ (hp W) → pm x = some r → fV true P f (a x ++ caps.toList) W (c r)
def rl {α β : Type} (P : Program) (fv : Value) (μ : fz) (a : α → List Value) (c : β → Value) (pm : α → Option β) : Prop :=
 ∃ f first caps, fv = .func (.func f) first caps ∧ (∀ args w, (callFunc f args).run P w = .ok (.enter f args) w) ∧ ∀ W x r, fA μ (hp W) → pm x = some r → fV false P f (first.toList ++ (a x ++ caps.toList)) W (c r)
theorem rl.form {α β : Type} {P : Program} {fv : Value} {μ : fz} {c : α → List Value} {d : β → Value} {pm : α → Option β} (h : rl P fv μ c d pm) : ∃ f a b, fv = .func f a b := let ⟨f, a, b, h, _⟩ := h; ⟨_, a, b, h⟩
section
variable {P : Program} {W : World} {E : Nat → Value} {d : Option Nat} {ty : TypeId} {pos : String} {af : Array Edge} {g : Option (Nat × Bool)} {F : Nat → Prop} {w : World} {μ μ0 : fz} {L : List (Nat × Obj)}
theorem rl.mono {α β : Type} {fv : Value} {a : α → List Value} {c : β → Value} {pm : α → Option β} (h : rl P fv μ a c pm) (i : fA μ μ0) : rl P fv μ0 a c pm := by
 obtain ⟨f, first, caps, h1, d, g⟩ := h
 exact ⟨f, first, caps, h1, d, fun W x r h => g W x r (i.trans h)⟩
theorem Bw {α β : Type} {K : Value → World → Prop} {fv : Value} {c : α → List Value} {k : β → Value} {pm : α → Option β} {i : Operand} {ax : Array Operand} {ats : Array TypeId} (x : α) {r : β} (a : ST false F w W μ L) (s : rl P fv μ0 c k pm) (u : fA μ0 μ) (t : fc E i = fv) (ha : ax.map (fc E) ++ (#[] : Array Value) = (c x).toArray) (hm : pm x = some r) (h : ∀ W', ST false F w W' μ L → K (k r) W') : ic P E ⟨d, .call ⟨.value i, ax, ats⟩, ty, pos, af, g⟩ W K := by
 obtain ⟨f, first, caps, rfl, n, o⟩ := s
 have j : ax.map (fc E) = (c x).toArray := by simpa using ha
 refine .inr (.inr ⟨f, (first.toList ++ (c x ++ caps.toList)).toArray, ?_, bp (o W x r (u.trans a.fO) hm) (fun _ _ ⟨p, q⟩ => ⟨_, p, h _ (a.xL q)⟩)⟩)
 show (do let d ← resolve (fc E) ⟨.value i, ax, ats⟩ ty; invoke d.target d.args : Sem Next).run P W = _
 simp only [resolve, t, Deferred.ofValue, bh, bN, aN, invoke, j, n]
 congr 2
 simp
end
end Go.Proofs.YtcafmokjkjcomaaGreat
namespace Go.Proofs.YtcafmokjkjcomaaGreat
open Go.RowKit
variable {dd : Bool}
def AX (A : List (Nat × Obj)) : fz := fun b => (A.find? (fun p => p.1 == b)).map (·.2)
theorem At.of {M : fz} {b : Nat} {cs : Array Value} {T : TypeId} {fr : Nat × Nat} (h : M b = some (.cells cs T fr)) (ys : List Value) (c : cs.toList = ys) : At M (.pointer (some ⟨b, 0, none⟩)) ys :=
 ⟨b, 0, cs, T, fr, rfl, h, fun j y a => by subst c; simpa using a⟩
section
variable {F : Nat → Prop} {w W W' : World} {μ μ' : fz} {L L0 L1 L2 : List (Nat × Obj)}
theorem ST.uh (h : ST dd F w W μ L) (a : L.Perm (L0 ++ L2)) : ∀ b o, (b, o) ∈ L2 → jy W L0 b = some o := fun b o c => by
 have h1 := (h.perm a).at_ (bR _ c)
 unfold jy
 rw [aA (sb (h.perm a).nd c)]
 exact h1
theorem ST.held (h : ST dd F w W μ L) (a : L.Perm (L0 ++ L2)) : qC L0 W := fun b o c => ((h.perm a).box b o (bc _ c)).1
theorem ST.zx (h : ST dd F w W μ L) (a : L.Perm (L0 ++ L2)) : (L0.map (·.1)).Nodup := by
 have := (h.perm a).nd
 rw [bo] at this
 exact (bn.1 this).1
theorem ST.zo (h : ST dd F w W μ L) (a : L.Perm (L0 ++ L2)) : fA μ (jy W L0) := (h.perm a).fK (fun _ hp => bc _ hp)
end
section
variable {P : Program} {E : Nat → Value} {W : World} {d : Option Nat} {ty : TypeId} {pos : String} {af : Array Edge} {g : Option (Nat × Bool)}
 {F : Nat → Prop} {w : World} {μ : fz} {L : List (Nat × Obj)}
theorem AN {K : Value → World → Prop} {K' : Value → List (Nat × Obj) → World → Prop} {f : FuncId} {fv : Operand} {ax : Array Operand} {ats : Array TypeId} {caps : Array Value} {args : List Value} (L0 L2 : List (Nat × Obj)) (a : ST dd F w W μ L) (c : L.Perm (L0 ++ L2)) (p : fc E fv = .func (.func f) #[] caps) (he : ∀ args w, (callFunc f args).run P w = .ok (.enter f args) w) (ha : ax.map (fc E) ++ (#[] : Array Value) = args.toArray) (n : qC L0 W → (L0.map (·.1)).Nodup → fA μ (jy W L0) → (∀ b o, (b, o) ∈ L2 → jy W L0 b = some o) → gq dd P f (args ++ caps.toList) W L0 K') (h : ∀ W' v μ' L1, ST dd F w W' μ' (L1 ++ L2) → fA μ μ' → Lo F w μ μ' → (∀ b, W.heap.size ≤ b → ∀ o, jy W' L1 b = some o → μ' b = some o) → K' v L1 W' → K v W') : ic P E ⟨d, .call ⟨.value fv, ax, ats⟩, ty, pos, af, g⟩ W K := by
 have i : ax.map (fc E) = args.toArray := by simpa using ha
 refine sa (args := (args ++ caps.toList).toArray) p he (by rw [i]; simp) (bp (n (a.held c) (a.zx c) (a.zo c) (a.uh c)) (fun _ W' ⟨v, L1, h1, j, k⟩ => ⟨v, h1, h W' v _ L1 ((a.perm c).back j) ((a.perm c).ux W' L1) ((a.perm c).vK W' L1) ?_ k⟩))
 intro b s o q
 unfold pD
 rw [aA (by omega)]
 exact q
theorem Sl.lift {α : Type} {enc : α → List Value} {k : Nat} {M μ' : fz} {B : Nat} {v : Value} {l : List α} (h : Sl (Pl enc) k M v l) (q : Fr B v) (p : ∀ b, B ≤ b → ∀ o, M b = some o → μ' b = some o) : Sl (Pl enc) k μ' v l := by
 obtain ⟨A, c, h1, d, g, i⟩ := h
 refine ⟨A, c, h1, d, g, fun s => ?_⟩
 obtain ⟨b, off, cs, T, fr, a, j, n⟩ := i s
 exact ⟨b, off, cs, T, fr, a, p b (q b (by rw [h1, a]; rfl)) _ j, n⟩
theorem sI {t : TypeId} (dd : Nat) {s u : Array TypeId} {b : Bool} (d : P.underlying t = some (.func s u b)) (f : Fn) (a c : Array Value) (W : World) : (Op.equalIn (dd + 1) t (.func f a c) .nilFunc).run P W = .ok false W := by
 simp [Op.equalIn, aC d]
theorem wE {tx tv : TypeId} {x y : Operand} {f : Fn} {a b : Array Value} {s u : Array TypeId} {c : Bool} (i : P.underlying tx = some (.func s u c)) (j : fc E x = .func f a b) (k : fc E y = .nilFunc) :
  fQ P E ⟨d, .binOp .neq tx x y tv, ty, pos, af, g⟩ W (.bool true) W := by
 show (do let r ← (do eqGuard .neq tx x y (fc E x) (fc E y); binOp .neq tx (fc E x) (fc E y)); pure (.value r) : Sem Next).run P W = _
 rw [j, k]
 have h := sI 9999 i f a b W
 simp [eqGuard, binOp, Op.equal, show Op.maxDepth = 9999 + 1 from rfl, h]
end
def xF {κ β : Type} (beq : κ → κ → Bool) (l : List (κ × β)) (k : κ) (z : β) : β := (iu beq l k).getD z
section
variable {P : Program} {W : World} {κ β : Type} {kt : TypeId} {kenc : κ → Value} {beq : κ → κ → Bool} {vf : β → Value} {E : Nat → Value} {d : Option Nat} {ty : TypeId} {pos : String} {af : Array Edge} {g : Option (Nat × Bool)} {F : Nat → Prop} {w : World} {μ : fz} {L R : List (Nat × Obj)} {v : Value} {left : List (κ × β)}
theorem xA {t e : TypeId} {m x : Operand} {s : Value} {l : List (κ × β)} {k : κ} {z : β} (K : mN P kt kenc beq) (o : P.underlying t = some (.map kt e)) (c : ∀ w, (zeroValue e).run P w = .ok (vf z) w) (hm : fc E m = s) (A : fc E x = kenc k) (v : my kenc vf (hp W) s l) :
  fQ P E ⟨d, .lookup t m x true, ty, pos, af, g⟩ W (.tuple #[vf (xF beq l k z), .bool (iu beq l k).isSome]) W := by
 show (do pure (.value (← Instr.lookup t (fc E m) (fc E x) true)) : Sem Next).run P W = _
 rw [hm, A]
 rcases v with ⟨rfl, rfl⟩ | ⟨q, es, clock, rfl, y, h⟩
 ·have := K.find k [] [] rfl W
  simp [Instr.lookup, aC o, K.check, this, c W, iu, xF]
 ·have a : W.heap[q]? = some (.map es clock) := y
  have u : (getObj q : Sem Obj).run P W = .ok (.map es clock) W := by simp [getObj, Sem.run, a]
  have j := K.find k _ _ h.keys W
  rw [h.get k] at j
  simp only [Instr.lookup, bh, aC o, aN, u, bN, K.check, j, xF, lT]
  cases D : l.findIdx? (fun p => beq k p.1) with
  | none => simp [c W]
  | some i =>
   cases n : l[i]? with
   | none => simp [n, c W]
   | some p => simp [n]
theorem kj.one {a : Value} {l : List (κ × β)} (h : kj kenc vf a l R) : a.oneCell' = true := by obtain ⟨m, es, clock, rfl, _⟩ := h; rfl
theorem kj.form {a : Value} {l : List (κ × β)} (h : kj kenc vf a l R) : ∃ m, a = .map (some m) := by obtain ⟨m, es, clock, rfl, _⟩ := h; exact ⟨m, rfl⟩
theorem kj.nd {a : Value} {l : List (κ × β)} (h : kj kenc vf a l R) : (R.map (·.1)).Nodup := by obtain ⟨m, es, clock, rfl, rfl, _⟩ := h; simp
end
def jR {α : Type} (l : List α) (i : Nat) (z : α) : List α := l.take i ++ List.replicate (l.length - i) z
theorem mf {α : Type} (l : List α) (i : Nat) (z : α) (h : i ≤ l.length) : (jR l i z).length = l.length := by simp [jR]; omega
theorem sA {α : Type} (l : List α) (i : Nat) (z : α) (h : i ≤ l.length) : (jR l i z).take i = l.take i := by
 simp only [jR]
 rw [dK, cd (by simp; omega)]
 simp; omega
end Go.Proofs.YtcafmokjkjcomaaGreat
namespace Go.Proofs.YtcafmokjkjcomaaGreat
open Go.RowKit
variable {dd : Bool}
def kO (b : Bool) : Option Unit := if b = true then some () else none
theorem sP {b : Bool} {u : Unit} (h : kO b = some u) : b = true := by
 unfold kO at h; split at h
 ·assumption
 ·cases h
theorem pS {a c : Int} {u : Unit} (h : kO (decide (0 ≤ a) && decide (a ≤ c)) = some u) : 0 ≤ a := by have := sP h; simp at this; exact this.1
theorem pK {a c : Int} {u : Unit} (h : kO (decide (0 ≤ a) && decide (a ≤ c)) = some u) : a ≤ c := by have := sP h; simp at this; exact this.2
def tE (k : Nat) (v : Value) (i : Nat) (u : Value) : Prop := ∃ A n c A' a, v = .slice A n c ∧ u = .slice A' (n - i) a ∧ i ≤ n ∧ (i < n → ∃ b o, A = some ⟨b, o, none⟩ ∧ A' = some ⟨b, o + i * k, none⟩)
section
variable {P : Program} {E : Nat → Value} {W : World} {d : Option Nat} {ty : TypeId} {pos : String} {af : Array Edge} {g : Option (Nat × Bool)}
 {F : Nat → Prop} {w : World} {μ : fz} {L : List (Nat × Obj)} {α : Type} {e' : TypeId} {enc : α → List Value} {k : Nat} {v : Value} {l : List α} {R : List (Nat × Obj)}
theorem pX {t e : TypeId} {x a : Operand} {z : IntKind} {i : Int} (n : P.underlying t = some (.slice e)) (he : ∀ w, (sizeOf e).run P w = .ok k w) (o : fc E x = v) (hi : fc E a = .int z i) (h : fN e' enc k v l R) (q : 0 ≤ i) (j : i ≤ l.length) :
  ∃ u, tE k v i.toNat u ∧ ∀ W, fQ P E ⟨d, .slice t x (some a) none none, ty, pos, af, g⟩ W u W := by
 rcases h with ⟨rfl, rfl, rfl⟩ | ⟨c, cap, p, rfl, rfl, h1, A, D, F⟩
 ·have : i = 0 := by simp at j; omega
  subst this
  refine ⟨.slice none 0 0, ⟨none, 0, 0, none, 0, rfl, rfl, aQ _, fun h => absurd h (by simp)⟩, fun W => ?_⟩
  show (do pure (.value (← Instr.sliceAt t (fc E x) (some (fc E a)) none none)) : Sem Next).run P W = _
  rw [o, hi]
  simp [Instr.sliceAt, Instr.slice, Instr.sliceBounds, Instr.sliceBound, asIntOf, aC n, he W]
 ·refine ⟨.slice (some (if cap = i.toNat then ⟨c, 0, none⟩ else (Addr.add ⟨c, 0, none⟩ (i.toNat * k)))) (l.length - i.toNat) (cap - i.toNat), ⟨_, _, _, _, _, rfl, rfl, by omega, fun y => ⟨c, 0, rfl, ?_⟩⟩, fun W => ?_⟩
  ·rw [aA (by omega)]; simp [cu]
  ·show (do pure (.value (← Instr.sliceAt t (fc E x) (some (fc E a)) none none)) : Sem Next).run P W = _
   rw [o, hi]
   have s : 0 ≤ i ∧ i ≤ (l.length : Int) := ⟨q, j⟩
   simp [Instr.sliceAt, Instr.slice, Instr.sliceBounds, Instr.sliceBound, asIntOf, aC n, he W, s]
   split <;> rfl
theorem qJ {i j : Nat} {x0 : α} (h : (l.drop i)[j]? = some x0) : l[i + j]? = some x0 := by rwa [ct] at h
theorem yy {t e : TypeId} {x : Operand} {u : Value} {i : Nat} (o : P.underlying t = some (.slice e)) (p : fc E x = u) (hu : tE k v i u) (h : fN e' enc k v l R) : fQ P E ⟨d, .call ⟨.builtin .len, #[x], #[t]⟩, ty, pos, af, g⟩ W (.int .i64 ((l.length - i : Nat) : Int)) W := by
 obtain ⟨A, n, c, A', q, h1, j, w, _⟩ := hu
 subst j
 have : n = l.length := by
  rcases h with ⟨rfl, rfl, rfl⟩ | ⟨s, cap, a, rfl, rfl, _⟩
  ·cases h1; rfl
  ·cases h1; rfl
 subst this
 exact uk o p
theorem qc {t e : TypeId} {x q : Operand} {M : IntKind} {i : Int} {x0 : α} {u : Value} {o : Nat} (K : P.underlying t = some (.slice e)) (he : ∀ w, (sizeOf e).run P w = .ok k w) (L : fc E x = u) (hi : fc E q = .int M i) (h : fN e' enc k v l R) (hu : tE k v o u) (F : 0 ≤ i) (J : (l.drop o)[i.toNat]? = some x0) :
  ∃ p, rj R k p (o + i.toNat) ∧ ∀ W, fQ P E ⟨d, .indexAddr t x q, ty, pos, af, g⟩ W p W := by
 have a := qJ J
 have j : o + i.toNat < l.length := (aM.1 a).1
 rcases h with ⟨rfl, rfl, rfl⟩ | ⟨D, cap, s, rfl, rfl, h1, Q, T, U⟩
 ·simp at j
 obtain ⟨A, n, c, A', O, y, rfl, Y, G⟩ := hu
 cases y
 obtain ⟨b, Z, z, rfl⟩ := G (by omega)
 cases z
 refine ⟨.pointer (some ⟨D, (o + i.toNat) * k, none⟩), ⟨_, _, rfl, rfl⟩, fun W => ?_⟩
 show (do pure (.value (← Instr.indexAt t (fc E x) (fc E q))) : Sem Next).run P W = _
 rw [L, hi]
 have I : 0 ≤ i ∧ i < ((l.length - o : Nat) : Int) := ⟨F, by omega⟩
 simp [Instr.indexAt, asIntOf, aC K, he W, I, cu, bz]
theorem xz {u : jT α} {t e : TypeId} {x ih : Operand} {O : IntKind} {j : Int} (M : P.underlying t = some (.slice e)) (he : ∀ w, (sizeOf e).run P w = .ok k w) (n : fc E x = v) (hi : fc E ih = .int O j) (h : Sl u k μ v l) (D : 0 ≤ j) (U : j ≤ l.length) :
  ∃ s, (Sl u k μ s (l.take j.toNat) ∧ ∀ B, Fr B v → Fr B s) ∧ ∀ W, fQ P E ⟨d, .slice t x none (some ih) none, ty, pos, af, g⟩ W s W := by
 obtain ⟨A, c, rfl, R, F, G⟩ := h
 have L : j.toNat ≤ l.length := by omega
 refine ⟨.slice A (l.take j.toNat).length c, ⟨⟨A, c, rfl, by simp; omega, F, fun hp => ?_⟩, fun B K b o => K b (by cases A with | none => simp [Value.ownBlock] at o | some a => (obtain ⟨y, Q, q⟩ := a; cases q <;> simp [Value.ownBlock] at o ⊢ <;> exact o))⟩, fun W => ?_⟩
 ·have p : 0 < l.length := by simp at hp; omega
  obtain ⟨b, off, cs, T, fr, rfl, I, J⟩ := G p
  refine ⟨b, off, cs, T, fr, rfl, I, fun i x n => ?_⟩
  rw [cA] at n
  split at n
  ·exact J i x n
  ·cases n
 ·show (do pure (.value (← Instr.sliceAt t (fc E x) none (some (fc E ih)) none)) : Sem Next).run P W = _
  rw [n, hi]
  have o : 0 ≤ j ∧ j ≤ (c : Int) := ⟨D, by omega⟩
  have z : min j.toNat l.length = j.toNat := by omega
  simp [Instr.sliceAt, Instr.slice, Instr.sliceBounds, Instr.sliceBound, asIntOf, aC M, he W, o, z]
  intro _
  cases A with
  | none => rfl
  | some a => obtain ⟨y, Q, q⟩ := a; cases q <;> simp [Addr.add]
theorem ui (ys : List Value) (m : Nat) : (Builtin.zeroCells ys.toArray m).toList = (List.replicate m ys).flatten := by
 unfold Builtin.zeroCells
 simp only [Array.toList_map, Array.toList_range, bQ]
 rcases cz ys.length with a | a
 ·have : ys = [] := bX.1 a
  subst this
  simp
 apply cI
 intro q
 by_cases d : q < m * ys.length
 ·have h1 : q / ys.length < m := (dG a).2 d
  have c : q % ys.length < ys.length := Nat.mod_lt _ a
  have := nC (enc := fun _ : Unit => ys) (fun _ => rfl) (List.replicate m ()) (q / ys.length) () (by simp [h1]) (q % ys.length) ys[q % ys.length] (by simp [c])
  rw [Nat.div_add_mod' q ys.length] at this
  rw [List.map_replicate] at this
  rw [this]
  simp [d, c]
 ·rw [cr (by simp; omega), cr (by simp; omega)]
theorem wN {K : Value → World → Prop} (z : α) (X : List (Nat × Obj)) {Y : List (Nat × Obj)} {t e : TypeId} {x : Operand} {u Z : Value} {i : Nat} (p : ST dd F w W μ (X ++ (R ++ Y))) (h : fN e' enc k v l R) (hk : ∀ x, (enc x).length = k) (h1 : ∀ x, ∀ u ∈ enc x, u.oneCell' = true) (O : P.underlying t = some (.slice e)) (hz : ∀ w, (zeroValue e).run P w = .ok Z w) (hu : tE k v i u) (hc : Z.cells = (enc z).toArray) (hx : fc E x = u) (L : ∀ W' R', ST dd F w W' μ (X ++ (R' ++ Y)) → fN e' enc k v (jR l i z) R' → K (.tuple #[]) W') : ic P E ⟨d, .call ⟨.builtin .clear, #[x], #[t]⟩, ty, pos, af, g⟩ W K := by
 have j : ∀ (W' : World), (Builtin.clear_ #[t] ty #[u]).run P W = .ok (.tuple #[]) W' → (execOp (fc E) ⟨d, .call ⟨.builtin .clear, #[x], #[t]⟩, ty, pos, af, g⟩).run P W = .ok (.value (.tuple #[])) W' := by
  intro W' hV
  show (do let d ← resolve (fc E) ⟨.builtin .clear, #[x], #[t]⟩ ty; invoke d.target d.args : Sem Next).run P W = _
  simp [resolve, invoke, builtin, hx, hV]
 obtain ⟨A, n, c, A', c', e1, rfl, D, h8⟩ := hu
 rcases h with ⟨rfl, rfl, rfl⟩ | ⟨s, cap, a, rfl, rfl, U, q2, I, q4⟩
 ·cases e1
  refine .inl ⟨_, W, j W ?_, L W [] p (by simpa [jR] using fN.nil e' enc k)⟩
  simp only [Builtin.clear_, Nat.zero_sub]
  cases A' <;> simp [aC O]
 ·cases e1
  by_cases hi : i < l.length
  ·obtain ⟨b, o, e2, rfl⟩ := h8 hi
   cases e2
   have T : ∀ m, (Builtin.zeroCells Z.cells m).toList = (List.replicate m (enc z)).flatten := by
    intro m
    rw [hc]; exact ui _ _
   have hb := (p.box s (.cells a e' (0, 0)) (by simp)).1
   have hle : i * k + (l.length - i) * k = l.length * k := by rw [← bz]; congr 1; omega
   have hlen : l.length * k ≤ c * k := bt _ U
   have q : ((List.replicate (l.length - i) (enc z)).flatten).length = (l.length - i) * k := by simp [hk]
   have y : ∀ v ∈ (List.replicate (l.length - i) (enc z)).flatten, v.oneCell' = true := by
    intro v G
    obtain ⟨ys, Q, G⟩ := List.mem_flatten.1 G
    rw [(List.mem_replicate.1 Q).2] at G
    exact h1 z v G
   have hs := run_storeCells_at (P := P) s (i * k) e' ((List.replicate (l.length - i) (enc z)).flatten) 0 a W hb (by rw [q, I]; omega) y
   rw [Nat.add_zero, q, hle] at hs
   refine .inl ⟨_, W.setRow s (a.toList.take (i * k) ++ (List.replicate (l.length - i) (enc z)).flatten ++ a.toList.drop (l.length * k)).toArray, j _ ?_, L _ [(s, .cells (a.toList.take (i * k) ++ (List.replicate (l.length - i) (enc z)).flatten ++ a.toList.drop (l.length * k)).toArray e' (0, 0))] (p.store _) (.inr ⟨s, c, _, by rw [mf _ _ _ D], rfl, by rw [mf _ _ _ D]; exact U, q2, ?_, ?_⟩)⟩
   ·have hn : l.length - i = (l.length - i - 1) + 1 := by omega
    simp only [Builtin.clear_]
    rw [hn]
    simp only [aC O, bh, aN, db, List.getElem?_cons_zero, hz, eF]
    rw [← hn, T, hs]
    simp
   ·have J : a.toList.length = c * k := by simpa using I
    rw [bQ, aK, aK, bx, dp, q, J, bU (by omega)]
    omega
   ·rw [mf _ _ _ D, jR, bo, List.flatten_append, rL hk l i D, ← q4, dD, bU (by omega), List.map_replicate]
    have J : a.toList.length = c * k := by simpa using I
    have e3 : (a.toList.take (i * k) ++ (List.replicate (l.length - i) (enc z)).flatten).length = l.length * k := by rw [aK, bx, q, J, bU (by omega)]; omega
    show List.take (l.length * k) (a.toList.take (i * k) ++ (List.replicate (l.length - i) (enc z)).flatten ++ a.toList.drop (l.length * k)) = _
    rw [dK, cd (by rw [e3]; exact aQ _), e3, Nat.sub_self]
    simp
  ·have M : i = l.length := by omega
   subst M
   refine .inl ⟨_, W, j W ?_, L W _ p ?_⟩
   ·simp only [Builtin.clear_, Nat.sub_self]
    cases A' <;> simp [aC O]
   ·simp only [jR, List.take_length, Nat.sub_self, List.replicate_zero, cm]
    exact .inr ⟨s, c, a, rfl, rfl, U, q2, I, q4⟩
end
end Go.Proofs.YtcafmokjkjcomaaGreat
namespace Go.Proofs.YtcafmokjkjcomaaGreat
open Go.RowKit
variable {dd : Bool}
section
variable {P : Program} {E : Nat → Value} {W : World} {d : Option Nat} {ty : TypeId} {pos : String} {af : Array Edge} {g : Option (Nat × Bool)}
 {F : Nat → Prop} {w : World} {μ : fz} {L : List (Nat × Obj)}
theorem xo {K : Value → World → Prop} {f : FuncId} {fv : Operand} {ax : Array Operand} {ats : Array TypeId} {args : List Value} {v : Value} (c : fc E fv = .func (.func f) #[] #[]) (ha : ax.map (fc E) ++ (#[] : Array Value) = args.toArray) (i : (callFunc f args.toArray).run P W = .ok (.value v) W) (h : K v W) : ic P E ⟨d, .call ⟨.value fv, ax, ats⟩, ty, pos, af, g⟩ W K := by
 have a : ax.map (fc E) = args.toArray := by simpa using ha
 refine .inl ⟨v, W, ?_, h⟩
 show (do let d ← resolve (fc E) ⟨.value fv, ax, ats⟩ ty; invoke d.target d.args : Sem Next).run P W = _
 simp only [resolve, c, Deferred.ofValue, bh, bN, aN, invoke]
 rw [a]
 simpa using i
def nf (s : ByteArray) (c : Int) : Int := Lib.indexByte s.data.toList c.toNat.toUInt8
def lj (a b : ByteArray) : Int := Lib.compareBytes a.data.toList b.data.toList
def lR (l : List Int) : List UInt8 := l.map fun x => x.toNat.toUInt8
def oO (a b : List Int) : Int := Lib.compareBytes (lR a) (lR b)
theorem tM {f : FuncId} {fn : Func} (g : P.funcs[f]? = some fn) (a : (fn.name == "runtime.NumGoroutine") = false) (d : fn.body.isNone = true) (h : Extern.findNext fn = none) (he : Extern.find fn = some Extern.BytealgIndexByte.indexByte) (s : ByteArray) (c : Int) (w : World) :
  (callFunc f [Value.string s, .int .u8 c].toArray).run P w = .ok (.value (.int .i64 (nf s c))) w := by
 rw [dU g a d h he]
 rw [Lib.run_indexByteString]
 rfl
theorem yW {f : FuncId} {fn : Func} (g : P.funcs[f]? = some fn) (c : (fn.name == "runtime.NumGoroutine") = false) (d : fn.body.isNone = true) (h : Extern.findNext fn = none) (he : Extern.find fn = some Extern.BytealgCompare.compare) (a b : ByteArray) (w : World) :
  (callFunc f [Value.string a, .string b].toArray).run P w = .ok (.value (.int .i64 (lj a b))) w := by
 rw [dU g c d h he]
 rw [Lib.run_compareString]
 rfl
theorem rf {v : Value} {l : List Int} (h : Sl (Pl (fl .u8)) 1 (hp W) v l) : (Extern.Bytes.bytesOf v).run P W = .ok ⟨(lR l).toArray⟩ W := by
 obtain ⟨A, c, rfl, p, q, i⟩ := h
 rcases cz l.length with a | a
 ·have : l = [] := bX.1 a
  subst this
  cases A <;> simp [Extern.Bytes.bytesOf, Extern.Bytes.loadBytes, lR] <;> rfl
 ·obtain ⟨b, off, cs, T, fr, rfl, k, n⟩ := i a
  have := Lib.run_loadBytesX (P := P) W l ⟨b, off, none⟩ .empty (fun j x o => by
   obtain ⟨ys, _, g, d⟩ := n j x o
   cases g
   rw [cu, en W b (off + j) cs T fr k]
   have := d 0 (.int .u8 x) rfl
   simpa using this)
  simp only [Extern.Bytes.bytesOf]
  rw [this]
  congr 1
  apply ew
  show (#[] : Array UInt8) ++ _ = _
  simp [Lib.bytesOf, lR]
theorem zm {f : FuncId} {fn : Func} (j : P.funcs[f]? = some fn) (c : (fn.name == "runtime.NumGoroutine") = false) (i : fn.body.isNone = true) (k : Extern.findNext fn = none) (he : Extern.find fn = some Extern.BytealgCompare.compare) {d g : Value} {a b : List Int} (h1 : Sl (Pl (fl .u8)) 1 (hp W) d a) (h : Sl (Pl (fl .u8)) 1 (hp W) g b) :
  (callFunc f [d, g].toArray).run P W = .ok (.value (.int .i64 (oO a b))) W := by
 rw [dU j c i k he]
 have : (Extern.BytealgCompare.compare [d, g].toArray).run P W = .ok (.int .i64 (oO a b)) W := by
  change Sem.run P (do pure (goInt (Extern.BytealgCompare.cmp (← Extern.Bytes.bytesOf d) (← Extern.Bytes.bytesOf g)))) W = _
  simp only [bh, rf h1, rf h, bN, Result.andThen]
  rw [Lib.cmp_eq]
  rfl
 rw [this]
 rfl
theorem qb {fn : Fn} {caps : Array Operand} {cs : List Value} {v : Value} (a : caps.map (fc E) ++ (#[] : Array Value) = cs.toArray) (c : .func fn #[] cs.toArray = v) : fQ P E ⟨d, .makeFunc fn #[] caps, ty, pos, af, g⟩ W v W := by
 have : caps.map (fc E) = cs.toArray := by simpa using a
 exact xE (by rw [this]; simpa using c)
theorem gq.mono {f : FuncId} {args : List Value} {L0 : List (Nat × Obj)} {K K' : Value → List (Nat × Obj) → World → Prop} (h : gq dd P f args w L0 K) (hk : ∀ v L1 W', K v L1 W' → K' v L1 W') : gq dd P f args w L0 K' :=
 bp h (fun _ _ ⟨v, L1, h1, a, c⟩ => ⟨v, L1, h1, a, hk _ _ _ c⟩)
end
section
variable {α : Type}
def lb (cf : α × α → Option Int) (x y : α) : Bool := match cf (x, y) with
 | some c => decide (c < 0)
 | none => false
structure rJ (cf : α × α → Option Int) (l : List α) : Prop where
 is : ∀ x ∈ l, ∀ y ∈ l, ∃ c, cf (x, y) = some c
 irrefl : ∀ x ∈ l, lb cf x x = false
 trans : ∀ x ∈ l, ∀ y ∈ l, ∀ z ∈ l, lb cf x y = true → lb cf y z = true → lb cf x z = true
 total : ∀ x ∈ l, ∀ y ∈ l, lb cf x y = false → lb cf y x = false → x = y
 short : l.length < 4611686018427387904
def la (cf : α × α → Option Int) (l : List α) : List α := l.mergeSort fun x y => !lb cf y x
open Classical in
noncomputable def pH (cf : α × α → Option Int) (l : List α) : Option (List α) := if rJ cf l then some (la cf l) else none
theorem xM {cf : α × α → Option Int} {l r : List α} (h : pH cf l = some r) : rJ cf l ∧ r = la cf l := by
 unfold pH at h
 split at h
 ·rename_i a; cases h; exact ⟨a, rfl⟩
 ·cases h
theorem zK {cf : α × α → Option Int} {l : List α} (h : rJ cf l) : pH cf l = some (la cf l) := by
 unfold pH; rw [aB h]
def lG (l : List ByteArray) : List ByteArray := l.mergeSort fun x y => !oV y x
end
end Go.Proofs.YtcafmokjkjcomaaGreat
namespace Go.Proofs.YtcafmokjkjcomaaGreat
open Go.RowKit
variable {dd : Bool}
def ma {κ γ : Type} (Q : Value → γ → List (Nat × Obj) → Prop) : List (κ × Value) → List (κ × γ) → List (Nat × Obj) → Prop
 | [], [], R => R = []
 | p :: a, q :: l, R => p.1 = q.1 ∧ ∃ R1 R2, R = R1 ++ R2 ∧ Q p.2 q.2 R1 ∧ ma Q a l R2
 | _, _, _ => False
def iG {κ γ : Type} (kenc : κ → Value) (Q : Value → γ → List (Nat × Obj) → Prop) (v : Value) (d : List (κ × Value)) (l : List (κ × γ)) (R : List (Nat × Obj)) : Prop :=
 ∃ a c, R = a ++ c ∧ kj kenc (fun x => x) v d a ∧ ma Q d l c
section
variable {κ γ : Type} {Q : Value → γ → List (Nat × Obj) → Prop} {beq : κ → κ → Bool} {kenc : κ → Value}
theorem ma.keys : ∀ {a : List (κ × Value)} {l : List (κ × γ)} {R : List (Nat × Obj)}, ma Q a l R → a.map (·.1) = l.map (·.1)
 | [], [], _, _ => rfl
 | [], _ :: _, _, h => h.elim
 | _ :: _, [], _, h => h.elim
 | p :: a, q :: l, R, h => by
  obtain ⟨h1, R1, R2, _, _, c⟩ := h
  simp [h1, ma.keys c]
theorem ma.find {a : List (κ × Value)} {l : List (κ × γ)} {R : List (Nat × Obj)} (h : ma Q a l R) (k : κ) : a.findIdx? (fun p => beq k p.1) = l.findIdx? (fun p => beq k p.1) := by
 have h1 : (a.map (·.1)).findIdx? (fun x => beq k x) = (l.map (·.1)).findIdx? (fun x => beq k x) := by rw [h.keys]
 rw [eo, eo] at h1
 exact h1
theorem ma.get : ∀ {a : List (κ × Value)} {l : List (κ × γ)} {R : List (Nat × Obj)}, ma Q a l R → ∀ (i : Nat) (k : κ) (x : γ), l[i]? = some (k, x) →
  ∃ v A R1 B, a[i]? = some (k, v) ∧ R = A ++ (R1 ++ B) ∧ Q v x R1 ∧ ∀ k2 v2 x2 R2, Q v2 x2 R2 → ma Q (a.set i (k2, v2)) (l.set i (k2, x2)) (A ++ (R2 ++ B))
 | [], [], _, _, i, k, x, hi => by simp at hi
 | [], _ :: _, _, h, _, _, _, _ => h.elim
 | _ :: _, [], _, h, _, _, _, _ => h.elim
 | p :: a, q :: l, R, h, 0, k, x, hi => by
  obtain ⟨h1, R1, R2, rfl, c, d⟩ := h
  simp at hi
  subst hi
  refine ⟨p.2, [], R1, R2, by simp only [List.getElem?_cons_zero]; exact aH some (Prod.ext h1 rfl), rfl, c, fun k2 v2 x2 R2' g => ⟨rfl, R2', R2, rfl, g, d⟩⟩
 | p :: a, q :: l, R, h, i + 1, k, x, hi => by
  obtain ⟨h1, R1, R2, rfl, c, d⟩ := h
  simp at hi
  obtain ⟨v, A, R1', B, g1, rfl, g3, g4⟩ := ma.get d i k x hi
  exact ⟨v, R1 ++ A, R1', B, by simpa using g1, by simp, g3, fun k2 v2 x2 R2' g => ⟨h1, R1, A ++ (R2' ++ B), by simp, c, g4 k2 v2 x2 R2' g⟩⟩
theorem ma.push : ∀ {c : List (κ × Value)} {l : List (κ × γ)} {R : List (Nat × Obj)}, ma Q c l R → ∀ (k : κ) {v : Value} {x : γ} {R1 : List (Nat × Obj)}, Q v x R1 → ma Q (c ++ [(k, v)]) (l ++ [(k, x)]) (R ++ R1)
 | [], [], _, h, k, v, x, R1, a => by
  have i : _ = [] := h
  subst i
  exact ⟨rfl, R1, [], by simp, a, rfl⟩
 | [], _ :: _, _, h, _, _, _, _, _ => h.elim
 | _ :: _, [], _, h, _, _, _, _, _ => h.elim
 | p :: c, q :: l, R, h, k, v, x, R1, a => by
  obtain ⟨h1, d, g, rfl, j, n⟩ := h
  exact ⟨h1, d, g ++ R1, by simp, j, ma.push n k a⟩
theorem iG.found {t : Value} {d : List (κ × Value)} {l : List (κ × γ)} {R : List (Nat × Obj)} (hk : ∀ {x y : κ}, beq x y = true → x = y) (h : iG kenc Q t d l R) {k : κ} {x : γ} (c : iu beq l k = some x) :
  ∃ v A R1 B, iu beq d k = some v ∧ R = A ++ (R1 ++ B) ∧ Q v x R1 ∧ (∀ x2 R2, Q v x2 R2 → iG kenc Q t d (mC beq l k x2) (A ++ (R2 ++ B))) := by
 obtain ⟨q, D, rfl, u, s⟩ := h
 rw [lT] at c
 cases hi : l.findIdx? (fun p => beq k p.1) with
 | none => rw [hi] at c; cases c
 | some i =>
  rw [hi] at c
  obtain ⟨p, hp, w⟩ := lp hi
  simp only [aw, hp, dz, ep] at c
  subst c
  have o := hk w
  obtain ⟨v, A, R1, B, g1, rfl, g3, g4⟩ := s.get i p.1 p.2 hp
  have g : d.findIdx? (fun p => beq k p.1) = some i := by rw [s.find k, hi]
  refine ⟨v, q ++ A, R1, B, by rw [lT, g]; simp [g1], by simp, g3, fun x2 R2 z => ⟨q, A ++ (R2 ++ B), by simp, u, ?_⟩⟩
  have a := g4 k v x2 R2 z
  have e : d.set i (k, v) = d := by
   apply cI
   intro j
   rw [de]
   split
   ·rename_i n
    subst n
    rw [g1, o]
    simp [(aM.1 g1).1]
   ·rfl
  rw [e] at a
  rw [mC, hi]
  exact a
theorem iG.xV {g : Value} {c : List (κ × Value)} {l : List (κ × γ)} {R : List (Nat × Obj)} (h : iG kenc Q g c l R) {k : κ} (a : iu beq l k = none) : iu beq c k = none := by
 obtain ⟨j, n, rfl, o, d⟩ := h
 rw [lT] at a ⊢
 rw [d.find k]
 cases hi : l.findIdx? (fun p => beq k p.1) with
 | none => rfl
 | some i =>
  rw [hi] at a
  obtain ⟨p, hp, q⟩ := lp hi
  simp [hp] at a
def lU (beq : κ → κ → Bool) (a : List (κ × Value)) (k : κ) (z : Value) : Value := (iu beq a k).getD z
variable {P : Program} {W : World} {kt : TypeId} {E : Nat → Value} {d : Option Nat} {ty : TypeId} {pos : String} {af : Array Edge} {g : Option (Nat × Bool)} {F : Nat → Prop} {w : World} {μ : fz} {L : List (Nat × Obj)}
variable {κ2 β : Type} {kenc2 : κ2 → Value} {vf : β → Value} {beq2 : κ2 → κ2 → Bool} {kt2 : TypeId}
theorem iG.isNil {d : Value} {c : List (κ × Value)} {l : List (κ × List (κ2 × β))} {R : List (Nat × Obj)} (hk : ∀ {x y : κ}, beq x y = true → x = y) (h : iG kenc (kj kenc2 vf) d c l R) (k : κ) :
  ∃ r, lU beq c k (.map none) = .map r ∧ r.isNone = (iu beq l k).isNone := by
 cases a : iu beq l k with
 | none => rw [lU, h.xV a]; exact ⟨none, rfl, rfl⟩
 | some x =>
  obtain ⟨v, A, R1, B, g1, rfl, g3, _⟩ := h.found hk a
  obtain ⟨m, es, clock, rfl, _⟩ := g3
  rw [lU, g1]
  exact ⟨_, rfl, rfl⟩
def wj {κ γ : Type} (beq : κ → κ → Bool) (l : List (κ × γ)) (k : κ) (x : γ) : Option (List (κ × γ)) := if (iu beq l k).isNone then some (mC beq l k x) else none
theorem yt {D : Value → World → Prop} (X : List (Nat × Obj)) {Y R R2 : List (Nat × Obj)} {t e : TypeId} {m x y : Operand} {A : Value} {v : List (κ × Value)} {l I : List (κ × γ)} {k : κ} {u : Value} {z : γ} (K : mN P kt kenc beq) (ht : P.underlying t = some (.map kt e)) (s : ST dd F w W μ (X ++ (R ++ (R2 ++ Y)))) (h : iG kenc Q A v l R) (hm : fc E m = A) (hx : fc E x = kenc k) (hy : fc E y = u) (Z : Q u z R2) (c : wj beq l k z = some I) (T : ∀ W' R', ST dd F w W' μ (X ++ (R' ++ Y)) → iG kenc Q A (mC beq v k u) I R' → D undef W') : ic P E ⟨d, .mapUpdate t m x y, ty, pos, af, g⟩ W D := by
 unfold wj at c
 cases n : iu beq l k with
 | some l2 => rw [n] at c; cases c
 | none =>
  rw [n] at c
  simp only [Option.isNone_none, aO, ep] at c
  subst c
  have U := h.xV n
  obtain ⟨L, o, rfl, M, O⟩ := h
  have j : ST dd F w W μ (X ++ (L ++ (o ++ (R2 ++ Y)))) := by simpa using s
  refine wJ X K ht j M hm hx hy (fun W' R' g1 g2 => T W' (R' ++ (o ++ R2)) (by simpa using g1) ⟨R', o ++ R2, rfl, g2, ?_⟩)
  have G : ∀ {J : Type} (q : List (κ × J)) (y : J), iu beq q k = none → mC beq q k y = q ++ [(k, y)] := fun q y a => by
   rw [lT] at a
   rw [mC]
   cases hi : q.findIdx? (fun p => beq k p.1) with
   | none => rfl
   | some i =>
    obtain ⟨p, hp, _⟩ := lp hi
    rw [hi] at a
    simp [hp] at a
  rw [G v u U, G l z n]
  exact O.push k Z
theorem iG.Cs {α : Type} {e : TypeId} {enc : α → List Value} {n : Nat} (i : ∀ x, (enc x).length = n) {j : Value} {c : List (κ × Value)} {l : List (κ × List α)} {R : List (Nat × Obj)} (hk : ∀ {x y : κ}, beq x y = true → x = y) (h : iG kenc (fN e enc n) j c l R) (k : κ) {μ : fz} (d : ∀ b o, (b, o) ∈ R → μ b = some o) :
  Sl (Pl enc) n μ (lU beq c k (.slice none 0 0)) ((iu beq l k).getD []) := by
 cases a : iu beq l k with
 | none => rw [lU, h.xV a]; exact ⟨none, 0, rfl, aQ _, di _, fun h => absurd h (Nat.lt_irrefl _)⟩
 | some x =>
  obtain ⟨v, A, R1, B, g1, rfl, g3, _⟩ := h.found hk a
  rw [lU, g1]
  exact g3.sl i (fun b o g => d b o (by simp [g]))
end
end Go.Proofs.YtcafmokjkjcomaaGreat
namespace Go.Proofs.YtcafmokjkjcomaaGreat
open Go.RowKit
variable {dd : Bool}
section
variable {κ γ : Type} {Q : Value → γ → List (Nat × Obj) → Prop} {beq : κ → κ → Bool} {kenc : κ → Value}
theorem sZ {a : Type} {l : List (κ × a)} {k : κ} {i : Nat} (h : l.findIdx? (fun p => beq k p.1) = some i) (x : a) : mC beq l k x = l.set i (k, x) := by rw [mC, h]
theorem rG {a : Type} {l : List (κ × a)} {k : κ} (h : l.findIdx? (fun p => beq k p.1) = none) (x : a) : mC beq l k x = l ++ [(k, x)] := by rw [mC, h]
theorem uy {a : Type} {l : List (κ × a)} {k : κ} (h : l.findIdx? (fun p => beq k p.1) = none) : iu beq l k = none := by rw [lT, h]; rfl
theorem th {a : Type} {l : List (κ × a)} {k : κ} {i : Nat} {p : κ × a} (h : l.findIdx? (fun p => beq k p.1) = some i) (hp : l[i]? = some p) : iu beq l k = some p.2 := by rw [lT, h]; simp [hp]
def BW (beq : κ → κ → Bool) (kenc : κ → Value) (Q : Value → γ → List (Nat × Obj) → Prop) (d : Value) (c : List (κ × Value)) (l : List (κ × γ)) (k : κ) (R : List (Nat × Obj)) : Prop :=
 ∃ a A B, R = a ++ (A ++ B) ∧ kj kenc (fun x => x) d c a ∧ ∀ v x R1, Q v x R1 → ma Q (mC beq c k v) (mC beq l k x) (A ++ (R1 ++ B))
theorem iG.open (hk : ∀ {x y : κ}, beq x y = true → x = y) {s z : Value} {x0 : γ} (j : Q z x0 []) {n : List (κ × Value)} {l : List (κ × γ)} {R : List (Nat × Obj)} (h : iG kenc Q s n l R) (k : κ) :
  ∃ R' R1, R.Perm (R' ++ R1) ∧ Q (lU beq n k z) ((iu beq l k).getD x0) R1 ∧ BW beq kenc Q s n l k R' := by
 obtain ⟨c, o, rfl, q, d⟩ := h
 have a := d.find (beq := beq) k
 cases hi : l.findIdx? (fun p => beq k p.1) with
 | none =>
  rw [hi] at a
  refine ⟨c ++ o, [], by simp, ?_, c, o, [], by simp, q, fun v x R1 g => ?_⟩
  ·rw [lU, uy hi, uy a]; exact j
  ·rw [rG hi, rG a]; simpa using d.push k g
 | some i =>
  rw [hi] at a
  obtain ⟨p, hp, t⟩ := lp hi
  have u := hk t
  obtain ⟨v, A, R1, B, g1, rfl, g3, g4⟩ := d.get i p.1 p.2 hp
  refine ⟨c ++ (A ++ B), R1, ?_, ?_, c, A, B, rfl, q, fun v2 x2 R2 g => ?_⟩
  ·rw [aR, aR]
   refine List.Perm.append_left _ (List.Perm.append_left _ dH)
  ·rw [lU, th hi hp, th a g1]; exact g3
  ·rw [sZ hi, sZ a]; exact g4 k v2 x2 R2 g
variable {P : Program} {W : World} {kt : TypeId} {E : Nat → Value} {d : Option Nat} {ty : TypeId} {pos : String} {af : Array Edge} {g : Option (Nat × Bool)} {F : Nat → Prop} {w : World} {μ : fz} {L : List (Nat × Obj)}
end
end Go.Proofs.YtcafmokjkjcomaaGreat
namespace Go.Proofs.YtcafmokjkjcomaaGreat
open Go.RowKit
variable {dd : Bool}
section
variable {κ γ : Type} {Q : Value → γ → List (Nat × Obj) → Prop} {beq : κ → κ → Bool} {kenc : κ → Value}
variable {P : Program} {W : World} {kt : TypeId} {E : Nat → Value} {d : Option Nat} {ty : TypeId} {pos : String} {af : Array Edge} {g : Option (Nat × Bool)} {F : Nat → Prop} {w : World} {μ : fz} {L : List (Nat × Obj)}
theorem lX.val {c : List (κ × Value)} {es : Array MapEntry} {clock : Nat} (h : lX kenc (fun x => x) c es clock) {i : Nat} {e : MapEntry} (he : es[i]? = some e) : ∃ p, c[i]? = some p ∧ e.key = kenc p.1 ∧ e.val = p.2 := by
 have a := aH (fun q => q[i]?) h.pQ
 simp only [cJ, bH, he, dz] at a
 cases hp : c[i]? with
 | none => rw [hp] at a; cases a
 | some p =>
  rw [hp] at a
  simp only [dz, ep, Prod.mk.injEq] at a
  exact ⟨p, rfl, a.1, a.2⟩
end
end Go.Proofs.YtcafmokjkjcomaaGreat
namespace Go.Proofs.YtcafmokjkjcomaaGreat
open Go.RowKit
variable {dd : Bool}
section
variable {κ γ : Type} {Q : Value → γ → List (Nat × Obj) → Prop} {beq : κ → κ → Bool} {kenc : κ → Value}
def oI (kenc : κ → Value) (Q : Value → γ → List (Nat × Obj) → Prop) (v : Value) (l : List (κ × γ)) (R : List (Nat × Obj)) : Prop := ∃ a, iG kenc Q v a l R
def jV (kenc : κ → Value) (Q : Value → γ → List (Nat × Obj) → Prop) (μ : fz) (v : Value) (l : List (κ × γ)) : Prop := ∃ a R, iG kenc Q v a l R ∧ ∀ b o, (b, o) ∈ R → μ b = some o
theorem oI.at {v : Value} {l : List (κ × γ)} {R : List (Nat × Obj)} {μ : fz} (h : oI kenc Q v l R) (a : ∀ b o, (b, o) ∈ R → μ b = some o) : jV kenc Q μ v l := let ⟨c, h⟩ := h; ⟨c, R, h, a⟩
theorem jV.mono {v : Value} {l : List (κ × γ)} {μ μ' : fz} (h : jV kenc Q μ v l) (d : fA μ μ') : jV kenc Q μ' v l := let ⟨g, R, h, a⟩ := h; ⟨g, R, h, fun b o c => d _ _ (a b o c)⟩
theorem iG.form {v : Value} {a : List (κ × Value)} {l : List (κ × γ)} {R : List (Nat × Obj)} (h : iG kenc Q v a l R) : ∃ m, v = .map (some m) := let ⟨_, _, _, h, _⟩ := h; h.form
theorem iG.e {v : Value} {a : List (κ × Value)} {l : List (κ × γ)} {R : List (Nat × Obj)} (h : iG kenc Q v a l R) : oI kenc Q v l R := ⟨a, h⟩
theorem oI.form {v : Value} {l : List (κ × γ)} {R : List (Nat × Obj)} (h : oI kenc Q v l R) : ∃ m, v = .map (some m) := let ⟨_, h⟩ := h; h.form
theorem oI.new {v : Value} {R : List (Nat × Obj)} (h : kj (β := Value) kenc (fun x => x) v [] R) : oI kenc Q v [] R := ⟨[], R, [], (cm R).symm, h, rfl⟩
theorem iG.rowAt {α : Type} {e : TypeId} {enc : α → List Value} {n : Nat} {g : Value} {c : List (κ × Value)} {l : List (κ × List α)} {R : List (Nat × Obj)} (hk : ∀ {x y : κ}, beq x y = true → x = y) (h : iG kenc (fN e enc n) g c l R) (k : κ) :
  ∃ R1, fN e enc n (lU beq c k (.slice none 0 0)) ((iu beq l k).getD []) R1 ∧ ∀ b o, (b, o) ∈ R1 → (b, o) ∈ R := by
 cases a : iu beq l k with
 | none => refine ⟨[], ?_, fun b o h => by cases h⟩; rw [lU, h.xV a]; exact .inl ⟨rfl, rfl, rfl⟩
 | some x =>
  obtain ⟨v, A, R1, B, g1, rfl, g3, _⟩ := h.found hk a
  refine ⟨R1, ?_, fun b o d => by simp [d]⟩
  rw [lU, g1]; exact g3
end
theorem lJ.hp (W : World) : lJ (hp W) [] W := ⟨fun _ _ h => h, fun _ _ h => by cases h⟩
section
variable {P : Program} {W : World} {E : Nat → Value} {d : Option Nat} {ty : TypeId} {pos : String} {af : Array Edge} {g : Option (Nat × Bool)} {F : Nat → Prop} {w : World} {μ : fz} {L : List (Nat × Obj)}
theorem xu {κ γ : Type} {c : Value → World → Prop} {t : TypeId} (kenc : κ → Value) (Q : Value → γ → List (Nat × Obj) → Prop) (a : ST dd F w W μ L) (i : ∀ W' v R, ST dd F w W' μ (R ++ L) → oI kenc Q v [] R → c v W') : ic P E ⟨d, .makeMap t none, ty, pos, af, g⟩ W c :=
 yq kenc (fun x : Value => x) a (fun W' v R h1 h => i W' v R h1 (oI.new h))
end
end Go.Proofs.YtcafmokjkjcomaaGreat
namespace Go.Proofs.YtcafmokjkjcomaaGreat
open Go.RowKit
section
variable {P : Program} {ops : Array Oper} {Q : Exit → Act → World → Prop} {S : Array Bool → World → Prop}
def og (ops : Array Oper) (l : Array Bool) : Prop := ∀ j o, ops[j]? = some o → l.getD j true = true → ∀ e ∈ o.after, Region.binds .any e = true → l.getD e.on true = true
def vF (ops : Array Oper) (i : Nat) (l : Array Bool) : Prop := og ops l ∧ l.getD i true = false
theorem og.start (n : Nat) (h : n = ops.size) : og ops (Array.replicate n false) := by
 subst h
 intro j o d c
 have a : j < ops.size := (bL.1 d).1
 simp [a] at c
theorem og.set {l : Array Bool} {i : Nat} (h : og ops l) (t : i ∈ Region.ready .any ops l) : og ops (l.setIfInBounds i true) := by
 intro j o s q e he p
 have up : ∀ {k : Nat}, l.getD k true = true → (l.setIfInBounds i true).getD k true = true := fun {k} hk => by
  by_cases d : i = k
  ·subst d
   by_cases n : i < l.size
   ·simp [n]
   ·simp [n]
  ·rw [getD_set_ne true d]; exact hk
 by_cases c : i = j
 ·subst c
  obtain ⟨_, u, g, a⟩ := eW.1 t
  rw [s] at g
  cases g
  refine up ?_
  have := a e he p
  by_cases n : e.on < l.size
  ·simp [n] at this ⊢; exact this
  ·simp [n]
 ·rw [getD_set_ne true c] at q
  exact up (h j o s q e he p)
def qo (P : Program) (ops : Array Oper) (S : Array Bool → World → Prop) (i : Nat) (o : Oper) (v : Value) (a : Act) : Prop :=
 (Region.wanted o (yielded ops a.tmps) = true ∧ ∀ l w, vF ops i l → S l w → (execOp a.eval o).run P w = .ok (.value v) w) ∨
 (Region.wanted o (yielded ops a.tmps) = false ∧ v = undef)
theorem qo.Ca {i : Nat} {o : Oper} {v : Value} {a : Act} {l : Array Bool} (h : qo P ops S i o v a) (hp : vF ops i l) : YieldsIf P ops (S l) o v a :=
 h.imp (fun ⟨h1, c⟩ => ⟨h1, fun w hw => c l w hp hw⟩) id
def xh (P : Program) (ops : Array Oper) (Q : Exit → Act → World → Prop) (S : Array Bool → World → Prop) : Nat → Array Bool → Act → World → Prop
 | 0, l, a, w => Region.ready .any ops l = [] ∧ Q .normal a w
 | n + 1, l, a, w => (Region.ready .any ops l = [] → Q .normal a w) ∧
  ∀ i ∈ Region.ready .any ops l, wpOp P ops Q i (fun d c => S (l.setIfInBounds i true) c ∧ xh P ops Q S n (l.setIfInBounds i true) d c) a w
theorem wR : ∀ (n : Nat) (l : Array Bool) (a : Act) (w : World), xh P ops Q S n l a w → wpAny P .any ops Q n l a w
 | 0, _, _, _, h => h
 | n + 1, _, _, _, h => ⟨h.1, fun i hi => wpOp_mono (fun c g d => wR n _ c g d.2) (h.2 i hi)⟩
theorem yM {i j : Nat} {d q : Oper} {v : Value} (x : ops[j]? = some q) (n : d.apart ops q = true) (o : ∀ cs b, d.op ≠ .select cs b) (p : ∀ cs b, q.op ≠ .select cs b) (u : ∀ c a w, Q (.panic c) (a.put d.dst v) w → Q (.panic c) a w) {K : Act → World → Prop} {a : Act} {w : World} (y : qo P ops S i d v a) (h : wpOp P ops Q j K (a.put d.dst v) w) :
  wpOp P ops Q j (fun g t => qo P ops S i d v g ∧ K (g.put d.dst v) t) a w := by
 have h1 : YieldsIf P ops (fun w => ∃ l, vF ops i l ∧ S l w) d v a := y.imp (fun ⟨h1, k⟩ => ⟨h1, fun w ⟨l, hp, hw⟩ => k l w hp hw⟩) id
 refine wpOp_mono (fun g t s => ⟨s.1.imp (fun ⟨h1, k⟩ => ⟨h1, fun l w hp hw => k w ⟨l, hp, hw⟩⟩) id, s.2⟩) (wpOp_putIf (S := fun w => ∃ l, vF ops i l ∧ S l w) x n o p u h1 h)
theorem us {i : Nat} {z : Oper} {v : Value} (hi : ops[i]? = some z) (u : ∀ (j : Nat) (o : Oper) cs b, ops[j]? = some o → o.op ≠ .select cs b) (hQ : ∀ c a w, Q (.panic c) (a.put z.dst v) w → Q (.panic c) a w) (hm : ∀ l w, S (l.setIfInBounds i true) w → S l w) :
  ∀ (n : Nat) (l : Array Bool) (a : Act) (w : World), (∀ j A, ops[j]? = some A → j ≠ i → l.getD j true = false → (∀ e ∈ A.after, Region.binds .any e = true → e.on ≠ i) → z.apart ops A = true) →
   og ops l → i ∈ Region.ready .any ops l → qo P ops S i z v a → S (l.setIfInBounds i true) w → xh P ops Q S n (l.setIfInBounds i true) (a.put z.dst v) w → xh P ops Q S (n + 1) l a w := by
 intro n
 induction n with
 | zero =>
  intro l a w _ L s M D H
  refine ⟨fun h => (by rw [h] at s; cases s), fun j G => ?_⟩
  by_cases d : j = i
  ·subst d
   exact (M.Ca ⟨L, (eW.1 s).1⟩).wpOp hi (hm l w D) ⟨D, H⟩
  ·have := ready_mono G d
   rw [H.1] at this
   cases this
 | succ n ih =>
  intro l a w p L s M D H
  refine ⟨fun h => (by rw [h] at s; cases s), fun j G => ?_⟩
  by_cases d : j = i
  ·subst d
   exact (M.Ca ⟨L, (eW.1 s).1⟩).wpOp hi (hm l w D) ⟨D, H⟩
  have h1 := H.2 j (ready_mono G d)
  obtain ⟨t, A, y, F⟩ := eW.1 G
  have J : ∀ e ∈ A.after, Region.binds .any e = true → e.on ≠ i := fun e he hb T => by
   have x := F e he hb
   have Z := (eW.1 s).1
   rw [T] at x
   rcases Nat.lt_or_ge i l.size with O | O
   ·simp [O] at Z x; rw [Z] at x; cases x
   ·simp [Array.getElem?_eq_none O] at x
  have x := yM y (p j A y d t J) (fun cs b => u i z cs b hi) (fun cs b => u j A cs b y) hQ M h1
  have q : ∀ k ok, ops[k]? = some ok → k ≠ i → (l.setIfInBounds j true).getD k true = false → (∀ e ∈ ok.after, Region.binds .any e = true → e.on ≠ i) → z.apart ops ok = true := fun k ok hk U K W => by
   refine p k ok hk U ?_ W
   by_cases I : j = k
   ·subst I; exact t
   ·rw [getD_set_ne true I] at K; exact K
  have g : (l.setIfInBounds i true).setIfInBounds j true = (l.setIfInBounds j true).setIfInBounds i true := Array.setIfInBounds_comm _ _ (Ne.symm d)
  refine wpOp_mono (fun a' Y R => ?_) x
  have h4 : S ((l.setIfInBounds j true).setIfInBounds i true) Y := by rw [← g]; exact R.2.1
  refine ⟨hm _ Y h4, ih (l.setIfInBounds j true) a' Y q (L.set G) (ready_mono s (Ne.symm d)) R.1 h4 ?_⟩
  rw [← g]
  exact R.2.2
end
def PX (P : Program) (n : Nat) (ops : Array Oper) (Q : gP) (S : Array Bool → World → Prop) (fuel : Nat) (listed : Array Bool) (E : Nat → Value) (W : World) : Prop :=
 og ops listed → ∀ a, Ag n a E → xh P ops (lift n Q) S fuel listed a W
section
variable {P : Program} {n : Nat} {Q : gP} {E : Nat → Value} {W : World} {ops : Array Oper} {S : Array Bool → World → Prop} {fuel : Nat} {listed : Array Bool}
theorem zd {id : Nat} {l : List Oper} (S : Array Bool → World → Prop) (hm : P.follows .mixedOrders = true) (h : PX P n l.toArray Q S l.length (Array.replicate l.length false) E W.drew) : CW P n (.region id l.toArray true) Q E W := fun a ha =>
 wp_region_any hm (wR _ _ _ _ (h (og.start _ (by simp)) a ha))
def qX (ops : Array Oper) (listed : Array Bool) (i : Nat) : Bool := Region.noSelect ops && Region.free .any ops listed i && (Region.ready .any ops listed).contains i
theorem vn {o : Oper} {dd : Nat} {v : Value} (i : Nat) (hi : ops[i]? = some o) (hk : qX ops listed i = true) (hw : gT n ops E o) (k : o.dst = some dd) (p : dd < n) (hm : ∀ l w, S (l.setIfInBounds i true) w → S l w) (j : S (listed.setIfInBounds i true) W) (q : ∀ l W, vF ops i l → S l W → fQ P E o W v W) (h : PX P n ops Q S fuel (listed.setIfInBounds i true) (gx E dd v) W) : PX P n ops Q S (fuel + 1) listed E W := fun d a ha => by
 simp only [qX, aX] at hk
 have g : i ∈ Region.ready .any ops listed := by simpa using hk.2
 exact us hi (Region.noSelect_spec hk.1.1) (fun _ _ _ h => vU h) hm fuel listed a W (Region.free_spec hi hk.1.2) d g (.inl ⟨hw.of ha, fun l w hp c => by rw [ha.eval]; exact q l w hp c⟩) j (by rw [k]; exact h (d.set g) _ (ha.put p v))
theorem Cl {A : Value → Prop} {o : Oper} {dd : Nat} (i : Nat) (hi : ops[i]? = some o) (hk : qX ops listed i = true) (hw : gT n ops E o) (d : o.dst = some dd) (g : dd < n) (hm : ∀ l w, S (l.setIfInBounds i true) w → S l w) (c : S (listed.setIfInBounds i true) W) (j : ∃ p, A p ∧ ∀ W, fQ P E o W p W) (h : ∀ p, A p → PX P n ops Q S fuel (listed.setIfInBounds i true) (gx E dd p) W) : PX P n ops Q S (fuel + 1) listed E W := by
 obtain ⟨p, h1, a⟩ := j
 exact vn i hi hk hw d g hm c (fun _ W _ _ => a W) (h p h1)
theorem Aq {o : Oper} {dd : Nat} (i : Nat) (hi : ops[i]? = some o) (hk : qX ops listed i = true) (hw : ∀ a, Ag n a E → Region.wanted o (yielded ops a.tmps) = false) (j : o.dst = some dd) (k : dd < n) (hm : ∀ l w, S (l.setIfInBounds i true) w → S l w) (g : S (listed.setIfInBounds i true) W) (h : PX P n ops Q S fuel (listed.setIfInBounds i true) (gx E dd undef) W) : PX P n ops Q S (fuel + 1) listed E W := fun c a ha => by
 simp only [qX, aX] at hk
 have d : i ∈ Region.ready .any ops listed := by simpa using hk.2
 exact us hi (Region.noSelect_spec hk.1.1) (fun _ _ _ h => vU h) hm fuel listed a W (Region.free_spec hi hk.1.2) c d (.inr ⟨hw a ha, rfl⟩) g (by rw [j]; exact h (c.set d) _ (ha.put k _))
theorem BS {o : Oper} {dd j t : Nat} {want : Bool} (i : Nat) (hi : ops[i]? = some o) (hk : qX ops listed i = true) (k : o.guard = some (j, want)) (p : (ops[j]?).bind (·.dst) = some t) (s : t < n) (c : E t = .bool (!want)) (g : o.dst = some dd) (q : dd < n) (hm : ∀ l w, S (l.setIfInBounds i true) w → S l w) (d : S (listed.setIfInBounds i true) W) (h : PX P n ops Q S fuel (listed.setIfInBounds i true) (gx E dd undef) W) : PX P n ops Q S (fuel + 1) listed E W :=
 Aq i hi hk (fun a ha => by have u := ha.yield p s c; simp [Region.wanted, k, u]) g q hm d h
theorem zF {o : Oper} {dd : Nat} (i : Nat) (hi : ops[i]? = some o) (g : Region.ready .any ops listed = [i]) (hw : gT n ops E o) (p : o.dst = some dd) (q : dd < n) (h : ic P E o W fun v W' => S (listed.setIfInBounds i true) W' ∧ PX P n ops Q S fuel (listed.setIfInBounds i true) (gx E dd v) W') : PX P n ops Q S (fuel + 1) listed E W := fun k a ha => by
 have c : i ∈ Region.ready .any ops listed := by rw [g]; simp
 refine ⟨fun u => (by rw [u] at g; cases g), fun j s => ?_⟩
 rw [g] at s
 obtain rfl := aV.1 s
 unfold wpOp
 simp only [hi]
 rw [aB (hw.of ha)]
 refine .inl ?_
 unfold Oper.wp
 rw [ha.eval]
 rcases h with ⟨v, W', h1, d⟩ | ⟨W', h1, d⟩ | ⟨f, args, h1, d⟩
 ·rw [h1, cg]; exact ⟨d.1, by rw [p]; exact d.2 (k.set c) _ (ha.put q v)⟩
 ·rw [h1, cQ]; exact ⟨d.1, by rw [p]; exact d.2 (k.set c) _ (ha.put q _)⟩
 ·rw [h1, cj]
  refine bp d ?_
  rintro e w ⟨v, rfl, t⟩
  exact ⟨t.1, by simp only [p]; exact t.2 (k.set c) _ (ha.put q v)⟩
theorem BY {o : Oper} (i : Nat) (hi : ops[i]? = some o) (g : Region.ready .any ops listed = [i]) (hw : gT n ops E o) (p : o.dst = none) (h : ic P E o W fun _ W' => S (listed.setIfInBounds i true) W' ∧ PX P n ops Q S fuel (listed.setIfInBounds i true) E W') : PX P n ops Q S (fuel + 1) listed E W := fun k a ha => by
 have c : i ∈ Region.ready .any ops listed := by rw [g]; simp
 refine ⟨fun t => (by rw [t] at g; cases g), fun j q => ?_⟩
 rw [g] at q
 obtain rfl := aV.1 q
 unfold wpOp
 simp only [hi]
 rw [aB (hw.of ha)]
 refine .inl ?_
 unfold Oper.wp
 rw [ha.eval]
 rcases h with ⟨v, W', h1, d⟩ | ⟨W', h1, d⟩ | ⟨f, args, h1, d⟩
 ·rw [h1, cg, p]; exact ⟨d.1, d.2 (k.set c) _ (ha.lB _)⟩
 ·rw [h1, cQ, p]; exact ⟨d.1, d.2 (k.set c) _ (ha.lB _)⟩
 ·rw [h1, cj]
  refine bp d ?_
  rintro e u ⟨v, rfl, s⟩
  simp only [p]
  exact ⟨s.1, s.2 (k.set c) _ (ha.lB _)⟩
theorem iH (c : Region.ready .any ops listed = []) (h : Q .normal E W) : PX P n ops Q S fuel listed E W := fun _ a ha => by
 cases fuel with
 | zero => exact ⟨c, E, ha, h⟩
 | succ f => exact ⟨fun _ => ⟨E, ha, h⟩, fun i hi => by rw [c] at hi; cases hi⟩
theorem nw {a : Array Bool} (c : listed = a) (h : PX P n ops Q S fuel a E W) : PX P n ops Q S fuel listed E W := by rw [c]; exact h
theorem By {o u : Oper} {d w : Nat} (i j : Nat) (hi : ops[i]? = some o) (K : ops[j]? = some u) (t : Region.ready .any ops listed = [i, j]) (hw : gT n ops E o) (A : gT n ops E u) (p : o.dst = some d) (y : u.dst = some w) (s : d < n) (z : w < n) (h : ic P E o W fun v W' => S (listed.setIfInBounds i true) W' ∧ PX P n ops Q S fuel (listed.setIfInBounds i true) (gx E d v) W') (I : ic P E u W fun v W' => S (listed.setIfInBounds j true) W' ∧ PX P n ops Q S fuel (listed.setIfInBounds j true) (gx E w v) W') : PX P n ops Q S (fuel + 1) listed E W := fun x a ha => by
 have key : ∀ (k : Nat) (q : Oper) (e : Nat), ops[k]? = some q → k ∈ Region.ready .any ops listed → gT n ops E q → q.dst = some e → e < n → (ic P E q W fun v W' => S (listed.setIfInBounds k true) W' ∧ PX P n ops Q S fuel (listed.setIfInBounds k true) (gx E e v) W') →
   wpOp P ops (lift n Q) k (fun G D => S (listed.setIfInBounds k true) D ∧ xh P ops (lift n Q) S fuel (listed.setIfInBounds k true) G D) a W := by
  intro k q e hk c hw p s h
  unfold wpOp
  simp only [hk]
  rw [aB (hw.of ha)]
  refine .inl ?_
  unfold Oper.wp
  rw [ha.eval]
  rcases h with ⟨v, W', h1, g⟩ | ⟨W', h1, g⟩ | ⟨f, args, h1, g⟩
  ·rw [h1, cg]; exact ⟨g.1, by rw [p]; exact g.2 (x.set c) _ (ha.put s v)⟩
  ·rw [h1, cQ]; exact ⟨g.1, by rw [p]; exact g.2 (x.set c) _ (ha.put s _)⟩
  ·rw [h1, cj]
   refine bp g ?_
   rintro e D ⟨v, rfl, F⟩
   exact ⟨F.1, by simp only [p]; exact F.2 (x.set c) _ (ha.put s v)⟩
 refine ⟨fun J => (by rw [J] at t; cases t), fun k hk => ?_⟩
 rw [t] at hk
 rcases aF.1 hk with rfl | hk
 ·exact key _ o d hi (by rw [t]; simp) hw p s h
 ·obtain rfl := aV.1 hk
  exact key _ u w K (by rw [t]; simp) A y z I
end
theorem rj.at {α : Type} {e : TypeId} {enc : α → List Value} {k : Nat} {v : Value} {l : List α} {R : List (Nat × Obj)} (h : fN e enc k v l R) (hk : ∀ x, (enc x).length = k) {p : Value} {i : Nat} (hp : rj R k p i) {x : α} (g : l[i]? = some x) : At (AX R) p (enc x) := by
 obtain ⟨c, a, cap, rfl, rfl, _, _, _, _, rfl, d⟩ := qy h hk hp g
 exact ⟨c, i * k, a, e, (0, 0), rfl, by simp [AX], d⟩
theorem my.form {κ β : Type} {kenc : κ → Value} {vf : β → Value} {μ : fz} {v : Value} {l : List (κ × β)} (h : my kenc vf μ v l) : ∃ r, v = .map r := by
 rcases h with ⟨h, _⟩ | ⟨m, es, clock, h, _⟩
 ·exact ⟨_, h⟩
 ·exact ⟨_, h⟩
noncomputable def oF {β : Type} (l : List (ByteArray × β)) : Option (List ByteArray) :=
 open Classical in if (l.map (·.1)).Nodup ∧ (∀ p ∈ l, p.1.size ≤ maxLen) ∧ l.length * 16 ≤ 140737488355328 then some (lG (l.map (·.1))) else none
theorem ma.zip {κ γ : Type} {Q : Value → γ → List (Nat × Obj) → Prop} : ∀ {g : List (κ × Value)} {l : List (κ × γ)} {R : List (Nat × Obj)}, ma Q g l R →
  ∃ a : List (κ × (Value × γ)), a.map (fun p => (p.1, p.2.1)) = g ∧ a.map (fun p => (p.1, p.2.2)) = l ∧ ∀ p ∈ a, ∃ R1, Q p.2.1 p.2.2 R1 ∧ ∀ x ∈ R1, x ∈ R
 | [], [], R, _ => ⟨[], rfl, rfl, fun _ h => by cases h⟩
 | [], _ :: _, _, h => h.elim
 | _ :: _, [], _, h => h.elim
 | p :: g, q :: l, R, h => by
  obtain ⟨h1, R1, R2, rfl, n, o⟩ := h
  obtain ⟨a, i, j, k⟩ := ma.zip o
  refine ⟨(q.1, (p.2, q.2)) :: a, by simp [i, ← h1], by simp [j], fun x c => ?_⟩
  rcases aF.1 c with rfl | c
  ·exact ⟨R1, n, fun y d => bc _ d⟩
  ·obtain ⟨R3, s, t⟩ := k x c
   exact ⟨R3, s, fun y d => bR _ (t y d)⟩
theorem jV.zip {κ κ2 β : Type} {kenc : κ → Value} {kenc2 : κ2 → Value} {vf : β → Value} {μ : fz} {v : Value} {l : List (κ × List (κ2 × β))} (h : jV kenc (kj kenc2 vf) μ v l) :
  ∃ a : List (κ × (Value × List (κ2 × β))), a.map (fun p => (p.1, p.2.2)) = l ∧ my kenc (fun x => x.1) μ v a ∧ ∀ p ∈ a, my kenc2 vf μ p.2.1 p.2.2 := by
 obtain ⟨u, R, ⟨s, t, rfl, ⟨m, es, clock, rfl, rfl, c⟩, n⟩, d⟩ := h
 obtain ⟨a, g, i, j⟩ := n.zip
 refine ⟨a, i, .inr ⟨m, es, clock, rfl, d _ _ (by simp), ⟨?_, c.born, c.lt⟩⟩, fun p hp => ?_⟩
 ·rw [c.pQ, ← g]; simp
 ·obtain ⟨R1, h1, k⟩ := j p hp
  exact h1.at (fun b o q => d b o (bR _ (k _ q)))
section
variable {P : Program} {n : Nat} {Q : gP} {E : Nat → Value} {W : World} {ops : Array Oper} {rest : List Oper}
variable {dd : Bool} {α : Type} {enc : α → List Value} {k : Nat} {μ : fz} {v : Value}
variable {d : Option Nat} {ty : TypeId} {pos : String} {af : Array Edge} {g : Option (Nat × Bool)} {F : Nat → Prop} {w : World} {L : List (Nat × Obj)}
def wk (enc : α → List Value) (k : Nat) : jT (List α) := fun μ ys x => ∃ v, ys = [v] ∧ Sl (Pl enc) k μ v x
theorem wk.mono (enc : α → List Value) (k : Nat) : uX (wk enc k) := fun _ _ _ _ c ⟨v, h1, a⟩ => ⟨v, h1, a.mono (Pl.mono _) c⟩
inductive pG (enc : α → List Value) (k : Nat) (μ : fz) : List Value → List (List α) → Prop
 | nil : pG enc k μ [] []
 | cons {v : Value} {x : List α} {vs : List Value} {l : List (List α)} : Sl (Pl enc) k μ v x → pG enc k μ vs l → pG enc k μ (v :: vs) (x :: l)
theorem pG.length {vs : List Value} {l : List (List α)} (h : pG enc k μ vs l) : vs.length = l.length := by
 induction h with
 | nil => rfl
 | cons _ _ ih => simp [ih]
theorem pG.get {vs : List Value} {l : List (List α)} (h : pG enc k μ vs l) : ∀ (i : Nat) (x : List α), l[i]? = some x → ∃ v, vs[i]? = some v ∧ Sl (Pl enc) k μ v x := by
 induction h with
 | nil => intro i x a; simp at a
 | cons h1 _ ih =>
  intro i x a
  cases i with
  | zero => simp at a; subst a; exact ⟨_, rfl, h1⟩
  | succ i => simpa using ih i x (by simpa using a)
theorem wk.lit {b m : Nat} {vs : List Value} {e : TypeId} {l : List (List α)} (hm : l.length = m) (d : m ≤ maxLen) (g : μ b = some (.cells vs.toArray e (0, 0))) (h : pG enc k μ vs l) : Sl (wk enc k) 1 μ (.slice (some ⟨b, 0, none⟩) m m) l := by
 subst hm
 refine ⟨_, _, rfl, aQ _, d, fun _ => ⟨b, 0, _, _, _, rfl, g, fun i x n => ?_⟩⟩
 obtain ⟨v, h1, c⟩ := h.get i x n
 refine ⟨[v], rfl, ⟨v, rfl, c⟩, fun j y a => ?_⟩
 cases j with
 | zero => simp at a; subst a; simpa using h1
 | succ j => simp at a
theorem yY {k2 : Nat} {t e : TypeId} {x a : Operand} {u : IntKind} {i : Int} {l : List (List α)} {x0 : List α} (q : P.underlying t = some (.slice e)) (he : ∀ w, (sizeOf e).run P w = .ok 1 w) (s : fc E x = v) (hi : fc E a = .int u i) (o : Sl (wk enc k2) 1 μ v l) (c : 0 ≤ i) (n : l[i.toNat]? = some x0) :
  ∃ p, (∃ v0, At μ p [v0] ∧ Sl (Pl enc) k2 μ v0 x0) ∧ ∀ W, fQ P E ⟨d, .indexAddr t x a, ty, pos, af, g⟩ W p W := by
 obtain ⟨p, ys, h1, ⟨v0, rfl, h⟩, j, k⟩ := tW (d := d) (ty := ty) (pos := pos) (af := af) (g := g) q he s hi o c n
 exact ⟨p, ⟨v0, j, h⟩, k⟩
end
theorem Bb {p : Prop} [Decidable p] {u : Unit} (h : kO (decide p) = some u) : p := df (sP h)
variable {dd : Bool}
section
variable {κ α : Type} {beq : κ → κ → Bool} {kenc : κ → Value} {t : TypeId} {enc : α → List Value}
variable {P : Program} {W : World} {kt : TypeId} {E : Nat → Value} {d : Option Nat} {ty : TypeId} {pos : String} {af : Array Edge} {g : Option (Nat × Bool)} {F : Nat → Prop} {w : World} {μ : fz} {L : List (Nat × Obj)}
theorem wy {γ c : Type} {l : List (κ × γ)} {m : List (κ × c)} {k : κ} (h : l.findIdx? (fun p => beq k p.1) = m.findIdx? (fun p => beq k p.1)) : (iu beq l k).isSome = (iu beq m k).isSome := by
 rw [lT, lT, h]
 cases hi : m.findIdx? (fun p => beq k p.1) with
 | none => rfl
 | some i =>
  obtain ⟨p, hp, _⟩ := lp hi
  rw [hi] at h
  obtain ⟨q, a, _⟩ := lp h
  simp [hp, a]
theorem ql {γ : Type} {Q : Value → γ → List (Nat × Obj) → Prop} {t e : TypeId} {m x : Operand} {i z : Value} {c : List (κ × Value)} {l : List (κ × γ)} {R : List (Nat × Obj)} {k : κ} (K : mN P kt kenc beq) (s : P.underlying t = some (.map kt e)) (v : ∀ w, (zeroValue e).run P w = .ok z w) (hm : fc E m = i) (u : fc E x = kenc k) (p : iG kenc Q i c l R) (q : ∀ b o, (b, o) ∈ R → W.heap[b]? = some o) : fQ P E ⟨d, .lookup t m x true, ty, pos, af, g⟩ W (.tuple #[lU beq c k z, .bool (iu beq l k).isSome]) W := by
 obtain ⟨y, A, rfl, j, n⟩ := p
 have a := xA (d := d) (ty := ty) (pos := pos) (af := af) (g := g) K s v hm u (j.at (μ := hp W) (fun b o h => q b o (bc _ h)))
 rw [wy (n.find k)] at a
 exact a
end
section
variable {P : Program} {fn : Func} {R : Ending → World → Prop} {E : Nat → Value} {W : World}
theorem wY {a : Tmp} {t0 : TypeId} {a0 : Addr} {v0 : Value} {c : Tmp} {v1 : Value} (g : fn.results = #[.cell a t0, .tmp c]) (d : E a = .pointer (some a0)) (j : (Instr.loadAt t0 (.pointer (some a0))).run P W = .ok v0 W) (h1 : E c = v1) (h : R (.returned (.tuple #[v0, v1])) W) : mu P fn R .ret E W :=
 ⟨.tuple #[v0, v1], fun tmps i => by
  have k : (loadVar t0 a0).run P W = .ok v0 W := by simpa [Instr.loadAt, Instr.sureAddr] using j
  simp [results, g, i, asAddr, d, k, h1], h⟩
end
end Go.Proofs.YtcafmokjkjcomaaGreat
namespace Go.Proofs.YtcafmokjkjcomaaGreat
open Go.RowKit
section
variable {x y : Nat × Obj} {A B C L R S : List (Nat × Obj)}
theorem Pz : (x :: A).Perm (x :: A) := .refl _
theorem Pb (h : A.Perm (x :: B)) : (y :: A).Perm (x :: y :: B) := (h.cons y).trans (.swap ..)
theorem Pr (h : A.Perm (x :: B)) : (S ++ A).Perm (x :: (S ++ B)) := (h.append_left S).trans dJ
theorem Qz : (R ++ A).Perm (R ++ A) := .refl _
theorem Qb (h : A.Perm (R ++ B)) : (y :: A).Perm (R ++ (y :: B)) := (h.cons y).trans List.perm_middle.symm
theorem Qr (h : A.Perm (R ++ B)) : (S ++ A).Perm (R ++ (S ++ B)) := (h.append_left S).trans (dX S R B)
def gm (L L' : List (Nat × Obj)) : Prop := ∃ M, L.Perm (L' ++ M)
theorem Sn : gm L [] := ⟨L, .refl _⟩
theorem St : gm L L := ⟨[], by rw [cm]⟩
theorem Sb (h : L.Perm (x :: A)) (k : gm A B) : gm L (x :: B) := let ⟨M, m⟩ := k; ⟨M, h.trans (m.cons x)⟩
theorem Sr (h : L.Perm (R ++ A)) (k : gm A B) : gm L (R ++ B) := let ⟨M, m⟩ := k; ⟨M, by rw [aR]; exact h.trans (m.append_left R)⟩
theorem Kb (k : gm A B) : gm (x :: A) (x :: B) := Sb Pz k
theorem Kr (k : gm A B) : gm (R ++ A) (R ++ B) := Sr Qz k
theorem Db (k : gm A B) : gm (x :: A) B := let ⟨M, m⟩ := k; ⟨x :: M, (m.cons x).trans List.perm_middle.symm⟩
theorem Dr (k : gm A B) : gm (R ++ A) B := let ⟨M, m⟩ := k; ⟨R ++ M, (m.append_left R).trans (dX R B M)⟩
theorem gm.mem (s : gm L A) : ∀ p, p ∈ A → p ∈ L := fun p hp => let ⟨M, m⟩ := s; m.mem_iff.2 (bc _ hp)
theorem ST.fe {dd : Bool} {F : Nat → Prop} {w W : World} {μ : fz} (h : ST dd F w W μ L) (s : gm L A) : ST dd F w W μ A := let ⟨M, m⟩ := s; (h.perm m).sublist (List.sublist_append_left A M)
theorem lJ.fe {μ : fz} {W : World} (h : lJ μ L W) (s : gm L A) : lJ μ A W := h.sub (fA.refl _) s.mem
theorem lJ.nB {μ μ' : fz} {W : World} (h : lJ μ L W) (a : fA μ' μ) (s : gm L A) : lJ μ' A W := h.sub a s.mem
theorem Cn : L.Perm ([] ++ L) := .refl _
theorem Cb (h : L.Perm (x :: A)) (k : A.Perm (B ++ C)) : L.Perm ((x :: B) ++ C) := h.trans (k.cons x)
theorem Cr (h : L.Perm (R ++ A)) (k : A.Perm (B ++ C)) : L.Perm ((R ++ B) ++ C) := by rw [aR]; exact h.trans (k.append_left R)
theorem C0 (k : L.Perm (B ++ C)) : L.Perm (([] ++ B) ++ C) := k
theorem Tn : ([] ++ A).Perm A := .refl _
theorem Tb (h : (A ++ B).Perm C) : ((x :: A) ++ B).Perm (x :: C) := h.cons x
theorem Tr (h : (A ++ B).Perm C) : ((R ++ A) ++ B).Perm (R ++ C) := by rw [aR]; exact h.append_left R
theorem Nb (h : L.Perm (x :: A)) (k : A.Perm B) : L.Perm (x :: B) := h.trans (k.cons x)
theorem Nr (h : L.Perm (R ++ A)) (k : A.Perm B) : L.Perm (R ++ B) := h.trans (k.append_left R)
theorem Nz : L.Perm L := .refl _
theorem Mh : x ∈ x :: A := .head _
theorem Mt (h : x ∈ A) : x ∈ y :: A := .tail _ h
theorem Ma (h : x ∈ A) : x ∈ R ++ A := bR _ h
theorem Ml (h : x ∈ R) : x ∈ R ++ A := bc _ h
end
section
variable {dd : Bool} {F : Nat → Prop} {w W : World} {μ : fz} {L L0 L1 Y R : List (Nat × Obj)}
theorem ST.CH (h : ST dd ga w W μ L) (s : gm L L1) : jg dd [] L1 w W := let ⟨_, m⟩ := s; (h.perm m).B2
theorem ST.gb (h : ST dd (keys L0) w W μ L) (s : gm L L1) : jg dd L0 L1 w W := let ⟨_, m⟩ := s; (h.perm m).BL
theorem ST.tf : ∀ {R : List (Nat × Obj)} {μ : fz}, ST dd F w W μ (R ++ Y) → ∃ μ', ST dd F w W μ' Y ∧ fA μ μ' ∧ Lo F w μ μ' ∧ ∀ b o, (b, o) ∈ R → μ' b = some o
 | [], μ, h => ⟨μ, h, fA.refl _, Lo.refl, fun _ _ h => by cases h⟩
 | (g, o) :: R, μ, h => by
  have c : ST dd F w W μ ([] ++ (g, o) :: (R ++ Y)) := h
  obtain ⟨μ', d, a2, a3, a4⟩ := ST.tf (R := R) (ST.rY (A := []) c)
  refine ⟨μ', d, (ST.rW (A := []) c).trans a2, (ST.vS (A := []) c).trans a3, fun b i a => ?_⟩
  rcases aF.1 a with a | a
  ·cases a; exact a2 _ _ (aB rfl)
  ·exact a4 b i a
theorem ST.vY {α : Type} {e' : TypeId} {enc : α → List Value} {k : Nat} {v : Value} {l : List α} (a : ST dd F w W μ (R ++ Y)) (h : fN e' enc k v l R) (hk : ∀ x, (enc x).length = k) : ∃ μ', ST dd F w W μ' Y ∧ fA μ μ' ∧ Lo F w μ μ' ∧ Sl (Pl enc) k μ' v l := by
 obtain ⟨μ', c, a2, a3, a4⟩ := ST.tf a
 exact ⟨μ', c, a2, a3, h.sl hk a4⟩
section
variable {P : Program} {n : Nat} {Q : gP} {E : Nat → Value} {V : World} {id : Nat} {l : List Oper} {A B C : List (Nat × Obj)}
theorem gX (a : lJ μ A V.drew) (hm : P.follows .mixedOrders = true) (h : PX P n l.toArray Q (fun _ W => lJ μ A W) l.length (Array.replicate l.length false) E V.drew) : CW P n (.region id l.toArray true) Q E V := zd _ hm h
end
structure ju (μ : fz) (L0 : List (Nat × Obj)) (w : World) : Prop where
 H : qC L0 w
 N : (L0.map (·.1)).Nodup
 S : fA μ (jy w L0)
theorem ST.lq (h : ju μ L0 w) : ST dd (keys L0) w w μ L0 := (ST.Bg h.H h.N).gW h.S
end
section
variable {dd : Bool} {P : Program} {E : Nat → Value} {W : World} {d : Option Nat} {ty : TypeId} {pos : String} {af : Array Edge} {g : Option (Nat × Bool)} {F : Nat → Prop} {w : World} {μ : fz} {L : List (Nat × Obj)}
theorem fH {K : Value → World → Prop} {B : List (Nat × Obj)} {t : TypeId} {x y : Operand} (v : Value) {b off : Nat} {cs : Array Value} {T : TypeId} (cs' : Array Value) (a : ST dd F w W μ ((b, .cells cs T (0, 0)) :: B)) (k : fc E x = .pointer (some ⟨b, off, none⟩)) (n : fc E y = v) (c : ∀ w, (sizeOf t).run P w = .ok v.cells.size w) (h1 : ∀ u ∈ v.cells.toList, u.oneCell' = true) (j : off + v.cells.size ≤ cs.size) (i : (cs.toList.take off ++ v.cells.toList ++ cs.toList.drop (off + v.cells.size)).toArray = cs') (h : ∀ W', ST dd F w W' μ ((b, .cells cs' T (0, 0)) :: B) → K undef W') : ic P E ⟨d, .store t x y, ty, pos, af, g⟩ W K := pn [] v cs' a k n c h1 j i h
end
section
variable {dd : Bool}
variable {P : Program} {n : Nat} {Q : gP} {E : Nat → Value} {W : World} {ops : Array Oper} {rest : List Oper}
 {d : Option Nat} {ty : TypeId} {pos : String} {af : Array Edge} {g : Option (Nat × Bool)}
 {F : Nat → Prop} {w : World} {μ : fz} {L : List (Nat × Obj)}
theorem nA {K : Value → World → Prop} {α : Type} {e t : TypeId} {enc : α → List Value} {k a : Nat} {z v vs : Value} {l m r : List α} {R Y : List (Nat × Obj)} {x y : Operand} {i : TypeInfo} (c : ST dd F w W μ (R ++ Y)) (hk : ∀ x, (enc x).length = k) (n : 0 < k) (h1 : ∀ x, ∀ u ∈ enc x, u.oneCell' = true) (G : P.underlying t = some (.slice e)) (hi : P.info? e = some i) (L : i.zero = some z) (p : z.cells.size = k) (o : i.size = k) (j : i.bytes = a) (I : fc E x = v) (J : fc E y = vs) (s : fN e enc k v l R) (D : Sl (Pl enc) k (hp W) vs m) (A : lV a l m = some r) (h : ∀ W' q R', ST dd F w W' μ (R' ++ Y) → fN e enc k q r R' → K q W') : ic P E ⟨d, .call ⟨.builtin .append, #[x, y], #[t, t]⟩, ty, pos, af, g⟩ W K :=
 zq [] c hk n h1 G hi L p o j I J s D A h
end
section
variable {dd : Bool}
variable {P : Program} {E : Nat → Value} {W : World} {d : Option Nat} {ty : TypeId} {pos : String} {af : Array Edge} {g : Option (Nat × Bool)}
 {F : Nat → Prop} {w : World} {μ : fz} {L : List (Nat × Obj)}
theorem xp {K : Value → World → Prop} {α : Type} {e : TypeId} {enc : α → List Value} {k : Nat} {l : List α} {f : FuncId} {fv : Operand} {ax : Array Operand} {ats : Array TypeId} {caps : Array Value} {args : List Value} (Y : List (Nat × Obj)) (a : ST dd F w W μ Y) (i : fc E fv = .func (.func f) #[] caps) (he : ∀ args w, (callFunc f args).run P w = .ok (.enter f args) w) (ha : ax.map (fc E) ++ caps = args.toArray) (c : gY dd P f args W e enc k l) (h : ∀ W' v μ' R, ST dd F w W' μ' (R ++ Y) → fA μ μ' → Lo F w μ μ' → fN e enc k v l R → K v W') : ic P E ⟨d, .call ⟨.value fv, ax, ats⟩, ty, pos, af, g⟩ W K :=
 xI [] Y a i he ha c h
end
section
variable {dd : Bool}
variable {P : Program} {E : Nat → Value} {W : World} {d : Option Nat} {ty : TypeId} {pos : String} {af : Array Edge} {g : Option (Nat × Bool)}
 {F : Nat → Prop} {w : World} {μ : fz} {L : List (Nat × Obj)} {α : Type} {e' : TypeId} {enc : α → List Value} {k : Nat} {v : Value} {l : List α} {R : List (Nat × Obj)}
theorem qx {K : Value → World → Prop} {Y : List (Nat × Obj)} {t : TypeId} {x y : Operand} {p u : Value} {i : Nat} {x0 x1 : α} (a : ST dd F w W μ (R ++ Y)) (h : fN e' enc k v l R) (hk : ∀ x, (enc x).length = k) (h1 : ∀ x, ∀ u ∈ enc x, u.oneCell' = true) (o : fc E x = p) (q : fc E y = u) (hu : u.cells = (enc x1).toArray) (hp : rj R k p i) (n : l[i]? = some x0) (j : ∀ w, (sizeOf t).run P w = .ok k w) (c : ∀ W' R', ST dd F w W' μ (R' ++ Y) → fN e' enc k v (l.set i x1) R' → K undef W') : ic P E ⟨d, .store t x y, ty, pos, af, g⟩ W K :=
 xN [] a h hk h1 o q hu hp n j c
end
section
variable {dd : Bool}
variable {P : Program} {E : Nat → Value} {W : World} {d : Option Nat} {ty : TypeId} {pos : String} {af : Array Edge} {g : Option (Nat × Bool)}
 {F : Nat → Prop} {w : World} {μ : fz} {L : List (Nat × Obj)} {α : Type} {e' : TypeId} {enc : α → List Value} {k : Nat} {v : Value} {l : List α} {R : List (Nat × Obj)}
theorem sB {K : Value → World → Prop} (z : α) {Y : List (Nat × Obj)} {t e : TypeId} {x : Operand} {u c : Value} {i : Nat} (a : ST dd F w W μ (R ++ Y)) (h : fN e' enc k v l R) (hk : ∀ x, (enc x).length = k) (h1 : ∀ x, ∀ u ∈ enc x, u.oneCell' = true) (o : P.underlying t = some (.slice e)) (q : ∀ w, (zeroValue e).run P w = .ok c w) (hu : tE k v i u) (n : c.cells = (enc z).toArray) (p : fc E x = u) (j : ∀ W' R', ST dd F w W' μ (R' ++ Y) → fN e' enc k v (jR l i z) R' → K (.tuple #[]) W') : ic P E ⟨d, .call ⟨.builtin .clear, #[x], #[t]⟩, ty, pos, af, g⟩ W K :=
 wN z [] a h hk h1 o q hu n p j
end
section
variable {dd : Bool}
variable {κ γ : Type} {Q : Value → γ → List (Nat × Obj) → Prop} {beq : κ → κ → Bool} {kenc : κ → Value}
variable {P : Program} {W : World} {kt : TypeId} {E : Nat → Value} {d : Option Nat} {ty : TypeId} {pos : String} {af : Array Edge} {g : Option (Nat × Bool)} {F : Nat → Prop} {w : World} {μ : fz} {L : List (Nat × Obj)}
variable {κ2 β : Type} {kenc2 : κ2 → Value} {vf : β → Value} {beq2 : κ2 → κ2 → Bool} {kt2 : TypeId}
theorem yV {i : Value → World → Prop} {Y R R2 : List (Nat × Obj)} {t e : TypeId} {m x y : Operand} {c : Value} {n : List (κ × Value)} {l j : List (κ × γ)} {k : κ} {u : Value} {z : γ} (K : mN P kt kenc beq) (s : P.underlying t = some (.map kt e)) (a : ST dd F w W μ (R ++ (R2 ++ Y))) (h : iG kenc Q c n l R) (hm : fc E m = c) (v : fc E x = kenc k) (A : fc E y = u) (q : Q u z R2) (p : wj beq l k z = some j) (o : ∀ W' R', ST dd F w W' μ (R' ++ Y) → iG kenc Q c (mC beq n k u) j R' → i undef W') : ic P E ⟨d, .mapUpdate t m x y, ty, pos, af, g⟩ W i :=
 yt [] K s a h hm v A q p o
end
section
variable {P : Program} {n : Nat} {Q : gP} {E : Nat → Value} {W : World} {ops : Array Oper} {rest : List Oper}
variable {d j t : Nat} {want : Bool} {v : Value} {ins : Go.Op} {ty : TypeId} {pos : String} {af : Array Edge} {A : Value → Prop}
theorem V (c : fQ P E ⟨some d, ins, ty, pos, af, none⟩ W v W) (h : LW P n ops Q rest (gx E d v) W) (a : d < n := by decide) : LW P n ops Q (⟨some d, ins, ty, pos, af, none⟩ :: rest) E W := uq (.inl rfl) rfl a c h
theorem VE (h : ic P E ⟨some d, ins, ty, pos, af, none⟩ W fun v W' => LW P n ops Q rest (gx E d v) W') (a : d < n := by decide) : LW P n ops Q (⟨some d, ins, ty, pos, af, none⟩ :: rest) E W := Bn (.inl rfl) rfl a h
theorem VO (h : ic P E ⟨none, ins, ty, pos, af, none⟩ W fun _ W' => LW P n ops Q rest E W') : LW P n ops Q (⟨none, ins, ty, pos, af, none⟩ :: rest) E W := BN (.inl rfl) rfl h
theorem VQ (c : ∃ p, A p ∧ ∀ W, fQ P E ⟨some d, ins, ty, pos, af, none⟩ W p W) (h : ∀ p, A p → LW P n ops Q rest (gx E d p) W) (a : d < n := by decide) : LW P n ops Q (⟨some d, ins, ty, pos, af, none⟩ :: rest) E W := BF (.inl rfl) rfl a c h
theorem Vg (c : (ops[j]?).bind (·.dst) = some t) (a : E t = .bool want) (i : fQ P E ⟨some d, ins, ty, pos, af, some (j, want)⟩ W v W) (h : LW P n ops Q rest (gx E d v) W) (k : t < n := by decide) (g : d < n := by decide) : LW P n ops Q (⟨some d, ins, ty, pos, af, some (j, want)⟩ :: rest) E W := uq (.inr ⟨j, want, t, rfl, c, k, a⟩) rfl g i h
theorem sv (c : (ops[j]?).bind (·.dst) = some t) (a : E t = .bool want) (h : ic P E ⟨some d, ins, ty, pos, af, some (j, want)⟩ W fun v W' => LW P n ops Q rest (gx E d v) W') (i : t < n := by decide) (g : d < n := by decide) : LW P n ops Q (⟨some d, ins, ty, pos, af, some (j, want)⟩ :: rest) E W := Bn (.inr ⟨j, want, t, rfl, c, i, a⟩) rfl g h
theorem Cc (c : (ops[j]?).bind (·.dst) = some t) (a : E t = .bool want) (i : ∃ p, A p ∧ ∀ W, fQ P E ⟨some d, ins, ty, pos, af, some (j, want)⟩ W p W) (h : ∀ p, A p → LW P n ops Q rest (gx E d p) W) (k : t < n := by decide) (g : d < n := by decide) : LW P n ops Q (⟨some d, ins, ty, pos, af, some (j, want)⟩ :: rest) E W := BF (.inr ⟨j, want, t, rfl, c, k, a⟩) rfl g i h
theorem Vn (c : (ops[j]?).bind (·.dst) = some t) (a : E t = .bool (!want)) (h : LW P n ops Q rest (gx E d undef) W) (i : t < n := by decide) (g : d < n := by decide) : LW P n ops Q (⟨some d, ins, ty, pos, af, some (j, want)⟩ :: rest) E W := BR rfl g rfl c i a h
theorem Vu (c : (ops[j]?).bind (·.dst) = some t) (a : E t = undef) (h : LW P n ops Q rest (gx E d undef) W) (i : t < n := by decide) (g : d < n := by decide) : LW P n ops Q (⟨some d, ins, ty, pos, af, some (j, want)⟩ :: rest) E W := A2 rfl g rfl c i a h
end
section
variable {P : Program} {n : Nat} {Q : gP} {E : Nat → Value} {W : World} {ops : Array Oper} {S : Array Bool → World → Prop} {fuel : Nat} {listed : Array Bool} {μ : fz} {B : List (Nat × Obj)}
variable {d j t : Nat} {want : Bool} {v : Value} {ins : Go.Op} {ty : TypeId} {pos : String} {af : Array Edge} {A : Value → Prop}
theorem X (i : Nat) (hi : ops[i]? = some ⟨some d, ins, ty, pos, af, none⟩) (a : S (listed.setIfInBounds i true) W) (g : ∀ {W}, fQ P E ⟨some d, ins, ty, pos, af, none⟩ W v W) (h : PX P n ops Q S fuel (listed.setIfInBounds i true) (gx E d v) W) (hk : qX ops listed i = true := by kernel_rfl) (hm : ∀ l w, S (l.setIfInBounds i true) w → S l w := by exact fun _ _ h => h) (c : d < n := by decide) : PX P n ops Q S (fuel + 1) listed E W := vn i hi hk (.inl rfl) rfl c hm a (fun _ _ _ _ => g) h
theorem XH (i : Nat) (hi : ops[i]? = some ⟨some d, ins, ty, pos, af, none⟩) (a : lJ μ B W) (g : ∀ W, lJ μ B W → fQ P E ⟨some d, ins, ty, pos, af, none⟩ W v W) (h : PX P n ops Q (fun _ W => lJ μ B W) fuel (listed.setIfInBounds i true) (gx E d v) W) (hk : qX ops listed i = true := by kernel_rfl) (c : d < n := by decide) : PX P n ops Q (fun _ W => lJ μ B W) (fuel + 1) listed E W := vn i hi hk (.inl rfl) rfl c (fun _ _ h => h) a (fun _ W _ h => g W h) h
theorem XQ (i : Nat) (hi : ops[i]? = some ⟨some d, ins, ty, pos, af, none⟩) (a : S (listed.setIfInBounds i true) W) (g : ∃ p, A p ∧ ∀ W, fQ P E ⟨some d, ins, ty, pos, af, none⟩ W p W) (h : ∀ p, A p → PX P n ops Q S fuel (listed.setIfInBounds i true) (gx E d p) W) (hk : qX ops listed i = true := by kernel_rfl) (hm : ∀ l w, S (l.setIfInBounds i true) w → S l w := by exact fun _ _ h => h) (c : d < n := by decide) : PX P n ops Q S (fuel + 1) listed E W := Cl i hi hk (.inl rfl) rfl c hm a g h
theorem XE (i : Nat) (hi : ops[i]? = some ⟨some d, ins, ty, pos, af, none⟩) (h : ic P E ⟨some d, ins, ty, pos, af, none⟩ W fun v W' => S (listed.setIfInBounds i true) W' ∧ PX P n ops Q S fuel (listed.setIfInBounds i true) (gx E d v) W') (c : Region.ready .any ops listed = [i] := by kernel_rfl) (a : d < n := by decide) : PX P n ops Q S (fuel + 1) listed E W := zF i hi c (.inl rfl) rfl a h
theorem XO (i : Nat) (hi : ops[i]? = some ⟨none, ins, ty, pos, af, none⟩) (h : ic P E ⟨none, ins, ty, pos, af, none⟩ W fun _ W' => S (listed.setIfInBounds i true) W' ∧ PX P n ops Q S fuel (listed.setIfInBounds i true) E W') (a : Region.ready .any ops listed = [i] := by kernel_rfl) : PX P n ops Q S (fuel + 1) listed E W := BY i hi a (.inl rfl) rfl h
theorem Xg (i : Nat) (hi : ops[i]? = some ⟨some d, ins, ty, pos, af, some (j, want)⟩) (g : (ops[j]?).bind (·.dst) = some t) (a : E t = .bool want) (c : S (listed.setIfInBounds i true) W) (p : ∀ {W}, fQ P E ⟨some d, ins, ty, pos, af, some (j, want)⟩ W v W) (h : PX P n ops Q S fuel (listed.setIfInBounds i true) (gx E d v) W) (hk : qX ops listed i = true := by kernel_rfl) (hm : ∀ l w, S (l.setIfInBounds i true) w → S l w := by exact fun _ _ h => h) (o : t < n := by decide) (k : d < n := by decide) : PX P n ops Q S (fuel + 1) listed E W := vn i hi hk (.inr ⟨j, want, t, rfl, g, o, a⟩) rfl k hm c (fun _ _ _ _ => p) h
theorem yA (i : Nat) (hi : ops[i]? = some ⟨some d, ins, ty, pos, af, some (j, want)⟩) (g : (ops[j]?).bind (·.dst) = some t) (a : E t = .bool want) (c : lJ μ B W) (p : ∀ W, lJ μ B W → fQ P E ⟨some d, ins, ty, pos, af, some (j, want)⟩ W v W) (h : PX P n ops Q (fun _ W => lJ μ B W) fuel (listed.setIfInBounds i true) (gx E d v) W) (hk : qX ops listed i = true := by kernel_rfl) (o : t < n := by decide) (k : d < n := by decide) : PX P n ops Q (fun _ W => lJ μ B W) (fuel + 1) listed E W := vn i hi hk (.inr ⟨j, want, t, rfl, g, o, a⟩) rfl k (fun _ _ h => h) c (fun _ W _ h => p W h) h
theorem wX (i : Nat) (hi : ops[i]? = some ⟨some d, ins, ty, pos, af, some (j, want)⟩) (c : (ops[j]?).bind (·.dst) = some t) (a : E t = .bool want) (h : ic P E ⟨some d, ins, ty, pos, af, some (j, want)⟩ W fun v W' => S (listed.setIfInBounds i true) W' ∧ PX P n ops Q S fuel (listed.setIfInBounds i true) (gx E d v) W') (k : Region.ready .any ops listed = [i] := by kernel_rfl) (o : t < n := by decide) (g : d < n := by decide) : PX P n ops Q S (fuel + 1) listed E W := zF i hi k (.inr ⟨j, want, t, rfl, c, o, a⟩) rfl g h
theorem Xn (i : Nat) (hi : ops[i]? = some ⟨some d, ins, ty, pos, af, some (j, want)⟩) (g : (ops[j]?).bind (·.dst) = some t) (a : E t = .bool (!want)) (c : S (listed.setIfInBounds i true) W) (h : PX P n ops Q S fuel (listed.setIfInBounds i true) (gx E d undef) W) (hk : qX ops listed i = true := by kernel_rfl) (hm : ∀ l w, S (l.setIfInBounds i true) w → S l w := by exact fun _ _ h => h) (o : t < n := by decide) (k : d < n := by decide) : PX P n ops Q S (fuel + 1) listed E W := BS i hi hk rfl g o a rfl k hm c h
end
section
variable {α β γ : Type}
inductive ku (Q : α → β → Prop) : List α → List β → Prop
 | nil : ku Q [] []
 | cons {a : α} {b : β} {l : List α} {m : List β} : Q a b → ku Q l m → ku Q (a :: l) (b :: m)
namespace ku
variable {Q Q' : α → β → Prop}
theorem length {l : List α} {m : List β} (h : ku Q l m) : l.length = m.length := by
 induction h with
 | nil => rfl
 | cons _ _ ih => simp [ih]
theorem imp {l : List α} {m : List β} (h : ku Q l m) (c : ∀ a b, Q a b → Q' a b) : ku Q' l m := by
 induction h with
 | nil => exact .nil
 | cons h1 _ ih => exact .cons (c _ _ h1) ih
theorem get {l : List α} {m : List β} (h : ku Q l m) : ∀ {i : Nat} {b : β}, m[i]? = some b → ∃ a, l[i]? = some a ∧ Q a b := by
 induction h with
 | nil => intro i b c; simp at c
 | cons h1 _ ih =>
  intro i b c
  cases i with
  | zero => simp at c; subst c; exact ⟨_, rfl, h1⟩
  | succ i => simpa using ih (by simpa using c)
theorem append {l a : List α} {m c : List β} (h : ku Q l m) (d : ku Q a c) : ku Q (l ++ a) (m ++ c) := by
 induction h with
 | nil => exact d
 | cons h1 _ ih => exact .cons h1 ih
theorem set {l : List α} {m : List β} (h : ku Q l m) {a : α} {b : β} (d : Q a b) : ∀ i : Nat, ku Q (l.set i a) (m.set i b) := by
 induction h with
 | nil => intro i; exact .nil
 | cons h1 c ih =>
  intro i
  cases i with
  | zero => exact .cons d c
  | succ i => exact .cons h1 (ih i)
theorem take {l : List α} {m : List β} (h : ku Q l m) : ∀ i : Nat, ku Q (l.take i) (m.take i) := by
 induction h with
 | nil => intro i; simp; exact .nil
 | cons h1 _ ih =>
  intro i
  cases i with
  | zero => exact .nil
  | succ i => exact .cons h1 (ih i)
theorem drop {l : List α} {m : List β} (h : ku Q l m) : ∀ i : Nat, ku Q (l.drop i) (m.drop i) := by
 induction h with
 | nil => intro i; simp; exact .nil
 | cons h1 a ih =>
  intro i
  cases i with
  | zero => exact .cons h1 a
  | succ i => exact ih i
end ku
end
structure Deep {β : Type} (R : jT β) (k : Nat) : Prop where
 mono : uX R
 len : ∀ {μ ys x}, R μ ys x → ys.length = k
 one : ∀ {μ ys x}, R μ ys x → ∀ u ∈ ys, u.oneCell' = true
abbrev pO (k : Nat) := {ys : List Value // ys.length = k ∧ ∀ u ∈ ys, u.oneCell' = true}
def ov {k : Nat} (c : pO k) : List Value := c.1
theorem xt {k : Nat} (x : pO k) : (ov x).length = k := x.2.1
theorem Sl.se {α : Type} {R : jT α} {k : Nat} {μ : fz} {v : Value} {l : List α} (h : Sl R k μ v l) : v.oneCell' = true := by
 obtain ⟨A, c, rfl, _⟩ := h; rfl
section
variable {β : Type} {Rl : jT β} {k : Nat} {μ μ' : fz} {v : Value} {l : List β}
def Deep.cell (a : Deep Rl k) {ys : List Value} {x : β} (h : Rl μ ys x) : pO k := ⟨ys, a.len h, a.one h⟩
theorem Sl.yK {cl : List (pO k)} (h : Sl (Pl ov) k μ v cl) (u : fA μ μ') (ha : ku (fun c x => Rl μ' c.1 x) cl l) : Sl Rl k μ' v l := by
 obtain ⟨A, c, rfl, h1, n, o⟩ := h
 have a := ha.length
 refine ⟨A, c, by rw [a], by omega, n, fun y => ?_⟩
 obtain ⟨b, off, cs, T, fr, rfl, q, p⟩ := o (by omega)
 refine ⟨b, off, cs, T, fr, rfl, u _ _ q, fun i x w => ?_⟩
 obtain ⟨c, s, t⟩ := ha.get w
 obtain ⟨ys, d, g, j⟩ := p i c s
 cases g
 exact ⟨ov c, d, t, j⟩
inductive rT (Rl : jT β) (k : Nat) (μ : fz) : List Value → List β → Prop
 | nil : rT Rl k μ [] []
 | cons {ys zs : List Value} {x : β} {l : List β} : Rl μ ys x → rT Rl k μ zs l → rT Rl k μ (ys ++ zs) (x :: l)
theorem rT.cells (d : Deep Rl k) {ys : List Value} (h : rT Rl k μ ys l) : ∃ cl : List (pO k), (cl.map ov).flatten = ys ∧ ku (fun c x => Rl μ c.1 x) cl l := by
 induction h with
 | nil => exact ⟨[], rfl, .nil⟩
 | cons h1 _ ih =>
  obtain ⟨cl, e, a⟩ := ih
  exact ⟨d.cell h1 :: cl, by rw [aT, bJ, e]; rfl, .cons h1 a⟩
theorem Sl.imp {R R' : jT β} (h : Sl R k μ v l) (hi : ∀ ys x, R μ ys x → R' μ ys x) : Sl R' k μ v l := by
 obtain ⟨A, c, rfl, h1, a, d⟩ := h
 refine ⟨A, c, rfl, h1, a, fun q => ?_⟩
 obtain ⟨b, off, cs, T, fr, rfl, p, g⟩ := d q
 exact ⟨b, off, cs, T, fr, rfl, p, fun i x s => let ⟨ys, j, n, o⟩ := g i x s; ⟨ys, j, hi _ _ n, o⟩⟩
def jA (e : TypeId) (Rl : jT β) (k : Nat) (μ : fz) (v : Value) (l : List β) (B : List (Nat × Obj)) : Prop := ∃ cl : List (pO k), fN e ov k v cl B ∧ ku (fun c x => Rl μ c.1 x) cl l
variable {e : TypeId} {B : List (Nat × Obj)}
theorem jA.mono (c : Deep Rl k) (h : jA e Rl k μ v l B) (d : fA μ μ') : jA e Rl k μ' v l B := by
 obtain ⟨cl, h1, a⟩ := h
 exact ⟨cl, h1, a.imp (fun _ _ h => c.mono _ _ _ _ d h)⟩
theorem jA.nil (e : TypeId) (Rl : jT β) (k : Nat) (μ : fz) : jA e Rl k μ (.slice none 0 0) [] [] := ⟨[], fN.nil _ _ _, .nil⟩
theorem jA.lit (d : Deep Rl k) {b m : Nat} {ys : List Value} (h : rT Rl k μ ys l) (hm : l.length = m) (g : m ≤ maxLen) (i : ys.length = m * k) : jA e Rl k μ (.slice (some ⟨b, 0, none⟩) m m) l [(b, .cells ys.toArray e (0, 0))] := by
 obtain ⟨cl, c, a⟩ := h.cells d
 exact ⟨cl, fN.lit (by rw [a.length]; exact hm) g c.symm (by simpa using i), a⟩
theorem jA.form (h : jA e Rl k μ v l B) : ∃ A c, v = .slice A l.length c := by
 obtain ⟨cl, h1, a⟩ := h
 rw [← a.length]; exact h1.form
theorem jA.len (h : jA e Rl k μ v l B) : l.length ≤ 9223372036854775807 := by
 obtain ⟨cl, h1, a⟩ := h
 rw [← a.length]; exact h1.len
theorem jA.nd (h : jA e Rl k μ v l B) : (B.map (·.1)).Nodup := let ⟨_, h1, _⟩ := h; h1.nd
theorem jA.isNil {n c : Nat} (h : jA e Rl k μ (.slice none n c) l B) : l = [] := by
 obtain ⟨cl, h1, a⟩ := h
 have := a.length
 rw [h1.isNil] at this
 exact cw this.symm
theorem jA.sl (h : jA e Rl k μ v l B) (c : Deep Rl k) (d : fA μ μ') (hm : ∀ b o, (b, o) ∈ B → μ' b = some o) : Sl Rl k μ' v l := by
 obtain ⟨cl, h1, a⟩ := h
 exact Sl.yK (h1.sl xt hm) (fA.refl _) (a.imp (fun _ _ h => c.mono _ _ _ _ d h))
end
section
variable {β : Type} {Rl : jT β} {k : Nat} {μ : fz} {v : Value} {l : List β} {e : TypeId} {B : List (Nat × Obj)}
variable {dd : Bool} {F : Nat → Prop} {w W : World} {L : List (Nat × Obj)}
theorem jA.B9 (h : jA e Rl k μ v l B) (c : Deep Rl k) (a : ST dd F w W μ L) (d : ∀ p, p ∈ B → p ∈ L) : Sl Rl k (hp W) v l := h.sl c a.fO (fun _ _ g => a.at_ (d _ g))
theorem jA.Bk (h : jA e Rl k μ v l B) (a : ST dd ga w W μ L) (c : ∀ p, p ∈ B → p ∈ L) : Fr w.heap.size v := let ⟨_, h1, _⟩ := h; h1.Bk a c
theorem ST.zJ {Y : List (Nat × Obj)} (g : Deep Rl k) (a : ST dd F w W μ (B ++ Y)) (h : jA e Rl k μ v l B) : ∃ μ', ST dd F w W μ' Y ∧ fA μ μ' ∧ Lo F w μ μ' ∧ Sl Rl k μ' v l := by
 obtain ⟨cl, h1, d⟩ := h
 obtain ⟨μ', c, a2, a4, a3⟩ := ST.vY a h1 xt
 exact ⟨μ', c, a2, a4, Sl.yK a3 (fA.refl _) (d.imp (fun _ _ h => g.mono _ _ _ _ a2 h))⟩
variable {P : Program} {E : Nat → Value} {d : Option Nat} {ty : TypeId} {pos : String} {af : Array Edge} {g : Option (Nat × Bool)}
theorem qP {t e' : TypeId} {x a : Operand} {z : IntKind} {i : Int} {x0 : β} {A : List Value → Prop} (q : ∀ {ys}, Rl μ ys x0 → A ys) (u : P.underlying t = some (.slice e')) (he : ∀ w, (sizeOf e').run P w = .ok k w) (y : fc E x = v) (hi : fc E a = .int z i) (s : Sl Rl k μ v l) (c : 0 ≤ i) (o : l[i.toNat]? = some x0) :
  ∃ p, (∃ ys, A ys ∧ At μ p ys) ∧ ∀ W, fQ P E ⟨d, .indexAddr t x a, ty, pos, af, g⟩ W p W := by
 obtain ⟨p, ys, _, h, j, n⟩ := tW (d := d) (ty := ty) (pos := pos) (af := af) (g := g) u he y hi s c o
 exact ⟨p, ⟨ys, q h, j⟩, n⟩
end
end Go.Proofs.YtcafmokjkjcomaaGreat
namespace Go.Proofs.YtcafmokjkjcomaaGreat
open Go.RowKit
def gV (dd : Bool) (P : Program) (f : FuncId) (args : List Value) (w : World) (μ0 : fz) (L0 : List (Nat × Obj)) (K : Value → List (Nat × Obj) → fz → Prop) : Prop :=
 Calls P f args.toArray w fun e a => ∃ v L1 μ1, e = .returned v ∧ jg dd L0 L1 w a ∧ fA μ0 μ1 ∧ Lo (keys L0) w μ0 μ1 ∧ fA μ1 (jy a L1) ∧ K v L1 μ1
theorem gV.gW {dd : Bool} {P : Program} {f : FuncId} {args : List Value} {w : World} {μ0 : fz} {L0 : List (Nat × Obj)} {K : Value → List (Nat × Obj) → fz → Prop} (h : gV true P f args w μ0 L0 K) : gV dd P f args w μ0 L0 K :=
 bp h fun _ _ ⟨v, L1, μ1, h1, a, c⟩ => ⟨v, L1, μ1, h1, a.gW, c⟩
section
variable {dd : Bool} {F : Nat → Prop} {w W W' : World} {μ μ1 : fz} {L L0 L1 L2 : List (Nat × Obj)}
theorem ST.zN (h : ST dd F w W μ (L0 ++ L)) (g : jg dd L0 L1 W W') (i : Lo (keys L0) W μ μ1) (d : fA μ1 (jy W' L1)) : ST dd F w W' μ1 (L1 ++ L) := by
 have h1 := h.back g
 refine ⟨h1.os, h1.tape, h1.output, h1.drawn, h1.size, h1.jZ, fun b o hm => ?_, fun b o a => ?_, h1.nd⟩
 ·have := d b o hm
  unfold jy at this
  split at this
  ·cases this
  ·exact this
 ·obtain ⟨j, n, k⟩ := h1.box b o a
  refine ⟨j, ?_, k⟩
  rcases aY.1 a with a | a
  ·cases hm : μ1 b with
   | none => rfl
   | some x =>
    have := d b x hm
    unfold jy at this
    rw [aB ⟨o, a⟩] at this
    cases this
  ·have c := h.box b o (bR _ a)
   rw [i b (gO c.1) (sb h.nd a)]
   exact c.2.1
variable {P : Program} {E : Nat → Value} {d : Option Nat} {ty : TypeId} {pos : String} {af : Array Edge} {g : Option (Nat × Bool)}
theorem wi {K : Value → World → Prop} {K' : Value → List (Nat × Obj) → fz → Prop} {f : FuncId} {fv : Operand} {ax : Array Operand} {ats : Array TypeId} {caps : Array Value} {args : List Value} (L0 L2 : List (Nat × Obj)) (a : ST dd F w W μ L) (c : L.Perm (L0 ++ L2)) (y : fc E fv = .func (.func f) #[] caps) (he : ∀ args w, (callFunc f args).run P w = .ok (.enter f args) w) (ha : ax.map (fc E) ++ (#[] : Array Value) = args.toArray) (x : qC L0 W → (L0.map (·.1)).Nodup → fA μ (jy W L0) → (∀ b o, (b, o) ∈ L2 → jy W L0 b = some o) → gV dd P f (args ++ caps.toList) W μ L0 K') (h : ∀ W' v μ' L1, ST dd F w W' μ' (L1 ++ L2) → fA μ μ' → Lo F w μ μ' → K' v L1 μ' → K v W') : ic P E ⟨d, .call ⟨.value fv, ax, ats⟩, ty, pos, af, g⟩ W K := by
 have i : ax.map (fc E) = args.toArray := by simpa using ha
 refine sa (args := (args ++ caps.toList).toArray) y he (by rw [i]; simp) (bp (x (a.held c) (a.zx c) (a.zo c) (a.uh c)) (fun _ W' ⟨v, L1, μ1, h1, k, n, j, p, s⟩ => ⟨v, h1, h W' v μ1 L1 ((a.perm c).zN k j p) n (fun b u t => j b (bK u a.size) (fun ⟨o, z⟩ => by
  rcases ((a.perm c).box b o (bc _ z)).2.2 with q | q
  ·omega
  ·exact t q)) s⟩))
end
section
variable {P : Program} {E : Nat → Value} {W : World} {d : Option Nat} {ty : TypeId} {pos : String} {af : Array Edge} {g : Option (Nat × Bool)}
 {dd : Bool} {F : Nat → Prop} {w : World} {μ : fz} {L : List (Nat × Obj)}
theorem sH {t e : TypeId} {C : Array Value} {b n c : Nat} (g : P.underlying t = some (.slice e)) (he : P.underlying e = some (.int .u8)) (d : W.heap[b]? = some (.cells C e (0, 0))) :
  (convert t t (.slice (some ⟨b, 0, none⟩) n c)).run P W = .ok (.slice (some ⟨b, 0, none⟩) n c) (W.freeze ⟨b, C.size, none⟩ 1) := by
 have a : W.shape? b = some (e, C.size) := by
  unfold World.shape?
  rw [d]
 simp [convert, aC g, aC he, markStringish, a]
theorem pq {K : Value → World → Prop} {t e : TypeId} {x : Operand} {b m : Nat} {cs : Array Value} {l : List Int} (a : ST dd F w W μ ((b, .cells cs e (0, 0)) :: L)) (v : P.underlying t = some (.slice e)) (he : P.underlying e = some (.int .u8)) (p : fc E x = .slice (some ⟨b, 0, none⟩) m m) (s : cs.toList = (l.map (fl .u8)).flatten) (hm : l.length = m) (q : m ≤ maxLen) (h : ∀ W' μ', ST dd F w W' μ' L → fA μ μ' → Lo F w μ μ' → Sl (Pl (fl .u8)) 1 μ' (.slice (some ⟨b, 0, none⟩) m m) l → K (.slice (some ⟨b, 0, none⟩) m m) W') : ic P E ⟨d, .convert t t x, ty, pos, af, g⟩ W K := by
 subst hm
 have n := (a.box b _ (by simp : (b, Obj.cells cs e (0, 0)) ∈ (b, Obj.cells cs e (0, 0)) :: L)).1
 have u := gO n
 have c : (W.freeze ⟨b, cs.size, none⟩ 1).heap[b]? = some (.cells cs e (cs.size, cs.size + 1)) := by
  unfold World.freeze
  rw [aA (by decide)]
  simp only [cq, aO]
  rw [n]
  rfl
 have h1 : ST dd F w (W.freeze ⟨b, cs.size, none⟩ 1) μ ([] ++ (b, .cells cs e (cs.size, cs.size + 1)) :: L) := by
  refine ST.put (A := []) (o := .cells cs e (0, 0)) a ⟨?_, ?_, ?_, ?_, ?_⟩ (fun k hk => ?_) c
  all_goals (unfold World.freeze; rw [aA (by decide)])
  ·exact aQ _
  ·simp
  ·simp only [cq]
   rw [aA (fun e => hk e.symm)]
 refine .inl ⟨_, _, ?_, h _ _ (ST.rY (A := []) h1) (ST.rW (A := []) h1) (ST.vS (A := []) h1) ?_⟩
 ·show (do pure (.value (← convert t t (fc E x))) : Sem Next).run P W = _
  rw [p]
  simp only [bh, sH v he n, aN, bN]
 ·refine ⟨_, _, rfl, aQ _, q, fun _ => ⟨b, 0, cs, e, _, rfl, aB rfl, fun i x p => ⟨_, rfl, rfl, fun j y z => ?_⟩⟩⟩
  have := nC (enc := fl .u8) (k := 1) (fun _ => rfl) l i x p j y z
  rw [← s] at this
  simpa using this
def qn {α : Type} (a : Nat) (z : α) (n : Int) : Option (List α) := if 0 ≤ n ∧ (a : Int) * n ≤ 140737488355328 ∧ n ≤ (maxLen : Int) then some (List.replicate n.toNat z) else none
theorem ue {α : Type} {enc : α → List Value} {k : Nat} (hk : ∀ x, (enc x).length = k) (a : 0 < k) (z : α) (n : Nat) : (madeCells (enc z).toArray (n * k)).toList = ((List.replicate n z).map enc).flatten := by
 apply List.ext_getElem
 ·rw [ly hk, bG, size_madeCells]; simp
 ·intro i h1 h
  rw [bG, size_madeCells] at h1
  have j : i / k < n := by rw [dG a]; exact h1
  have d : i % k < (enc z).length := by rw [hk]; exact Nat.mod_lt _ a
  have c := nC hk (List.replicate n z) (i / k) z (by rw [List.getElem?_replicate, aB j]) (i % k) _ (bD d)
  rw [show i / k * k + i % k = i by rw [Nat.mul_comm]; exact Nat.div_add_mod i k] at c
  rw [bD h] at c
  have g := Option.some.inj c
  rw [g]
  simp only [madeCells, Array.getElem_toList, Array.getElem_map, Array.getElem_range, bQ, hk]
  rw [getElem!_pos _ _ (by simpa using d)]
  simp
theorem wD {K : Value → World → Prop} {α : Type} {e t : TypeId} {enc : α → List Value} {k a : Nat} {c : Value} {n : Int} {o : IntKind} {z : α} {r : List α} {x y : Operand} {i : TypeInfo} (p : ST dd F w W μ L) (hk : ∀ x, (enc x).length = k) (u : 0 < k) (O : P.underlying t = some (.slice e)) (hi : P.info? e = some i) (T : i.zero = some c) (v : i.size = k) (s : i.bytes = a) (J : c.cells = (enc z).toArray) (Q : fc E x = .int o n) (R : fc E y = .int o n) (j : qn a z n = some r) (h : ∀ W' A R', ST dd F w W' μ (R' ++ L) → fN e enc k A r R' → K A W') : ic P E ⟨d, .makeSlice t x y, ty, pos, af, g⟩ W K := by
 unfold qn at j
 split at j
 case isFalse => cases j
 rename_i q
 cases j
 obtain ⟨D, h1, G⟩ := q
 subst v; subst s
 have I : n.toNat ≤ maxLen := by omega
 have M := run_make (P := P) W t e i c O hi T o o n n D (eU _) (by omega) (by simp only [maxLen] at G; omega)
 refine .inl ⟨.slice (some ⟨W.heap.size, 0, none⟩) n.toNat n.toNat, W.alloc (.cells (madeCells c.cells (n.toNat * i.size)) e), ?_, h _ _ [(W.heap.size, .cells (madeCells c.cells (n.toNat * i.size)) e)] (p.alloc _) ?_⟩
 ·show (do pure (.value (← Instr.makeSlice t (fc E x) (fc E y))) : Sem Next).run P W = _
  rw [Q, R]
  simp only [bh, M, aN, bN]
 ·exact fN.lit (by rw [List.length_replicate]) I (by rw [J]; exact ue hk u z _) (by rw [size_madeCells])
end
section
variable {P : Program} {E : Nat → Value} {W : World} {d : Option Nat} {ty : TypeId} {pos : String} {af : Array Edge} {g : Option (Nat × Bool)}
theorem yS {op : BinOp} {tx tv : TypeId} {x y : Operand} {k : IntKind} {a b : Int} {v : Value} (i : fc E x = .int k a) (j : fc E y = .int k b) (h : (match op with | .and => some (BitVec.ofInt k.bits a &&& BitVec.ofInt k.bits b) | .or => some (BitVec.ofInt k.bits a ||| BitVec.ofInt k.bits b) | .xor => some (BitVec.ofInt k.bits a ^^^ BitVec.ofInt k.bits b) | _ => none).map (fun (c : BitVec k.bits) => Value.int k (k.wrap c.toNat)) = some v) :
  fQ P E ⟨d, .binOp op tx x y tv, ty, pos, af, g⟩ W v W := by
 show (do let r ← (do eqGuard op tx x y (fc E x) (fc E y); binOp op tx (fc E x) (fc E y)); pure (.value r) : Sem Next).run P W = _
 rw [i, j]
 cases op <;> simp at h <;> subst h <;> simp [eqGuard, binOp, Op.intBits]
theorem BG {tx tv : TypeId} {x y : Operand} {k k' : IntKind} {a b : Int} (c : fc E x = .int k a) (h : fc E y = .int k' b) (i : 0 ≤ b) :
  fQ P E ⟨d, .binOp .shl tx x y tv, ty, pos, af, g⟩ W (.int k (k.wrap (a * 2 ^ min b.toNat k.bits))) W := by
 show (do let r ← (do eqGuard .shl tx x y (fc E x) (fc E y); binOp .shl tx (fc E x) (fc E y)); pure (.value r) : Sem Next).run P W = _
 rw [c, h]
 simp [eqGuard, binOp, Op.shift, show ¬ b < 0 by omega]
end
theorem jV.se {κ γ : Type} {kenc : κ → Value} {Q : Value → γ → List (Nat × Obj) → Prop} {μ : fz} {v : Value} {l : List (κ × γ)} (h : jV kenc Q μ v l) : v.oneCell' = true := by
 obtain ⟨a, R, h, _⟩ := h
 obtain ⟨m, rfl⟩ := h.form
 rfl
theorem my.se {κ β : Type} {kenc : κ → Value} {vf : β → Value} {μ : fz} {v : Value} {l : List (κ × β)} (h : my kenc vf μ v l) : v.oneCell' = true := by
 obtain ⟨m, rfl⟩ := h.form
 rfl
section
variable {β : Type} {Rl : jT β} {k : Nat} {μ μ' : fz} {v : Value} {x : Option β}
def lz (Rl : jT β) (μ : fz) (v : Value) (x : Option β) : Prop := (v = .pointer none ∧ x = none) ∨ ∃ y ys, x = some y ∧ At μ v ys ∧ Rl μ ys y
theorem lz.nil : lz Rl μ (.pointer none) none := .inl ⟨rfl, rfl⟩
theorem lz.some {y : β} {ys : List Value} (h : At μ v ys) (a : Rl μ ys y) : lz Rl μ v (some y) := .inr ⟨y, ys, rfl, h, a⟩
theorem lz.mono (g : Deep Rl k) (h : lz Rl μ v x) (a : fA μ μ') : lz Rl μ' v x := by
 rcases h with h | ⟨y, ys, h1, c, d⟩
 ·exact .inl h
 ·exact .inr ⟨y, ys, h1, c.mono a, g.mono _ _ _ _ a d⟩
theorem lz.se (h : lz Rl μ v x) : v.oneCell' = true := by
 rcases h with ⟨rfl, _⟩ | ⟨y, ys, _, ⟨b, off, cs, T, fr, rfl, _⟩, _⟩ <;> rfl
variable {P : Program} {E : Nat → Value} {W : World} {d : Option Nat} {ty : TypeId} {pos : String} {af : Array Edge} {g : Option (Nat × Bool)}
theorem tk {tx tv e : TypeId} {a b : Operand} (c : P.underlying tx = some (.pointer e)) (h : lz Rl μ v x) (i : fc E a = v) (j : fc E b = .pointer none) :
  fQ P E ⟨d, .binOp .eql tx a b tv, ty, pos, af, g⟩ W (.bool x.isNone) W := by
 rcases h with ⟨rfl, rfl⟩ | ⟨y, ys, rfl, ⟨k, off, cs, T, fr, rfl, _⟩, _⟩
 ·exact jL (a := none) c i j
 ·exact jL (a := Option.some _) c i j
theorem qW {a : Operand} {y : β} {A : List Value → Prop} (k : ∀ {ys}, Rl μ ys y → A ys) (h : lz Rl μ v x) (i : x = Option.some y) (n : fc E a = v) :
  ∃ p, (∃ ys, A ys ∧ At μ p ys) ∧ ∀ W, fQ P E ⟨d, .nilCheck a, ty, pos, af, g⟩ W p W := by
 rcases h with ⟨_, rfl⟩ | ⟨z, ys, rfl, c, j⟩
 ·cases i
 ·cases i
  refine ⟨v, ⟨ys, k j, c⟩, fun W => ?_⟩
  obtain ⟨o, off, cs, T, fr, rfl, _⟩ := c
  exact ig n
end
section
variable {dd : Bool}
variable {β : Type} {Rl : jT β} {k : Nat} {μ : fz} {v : Value} {l : List β} {e : TypeId} {B : List (Nat × Obj)}
variable {F : Nat → Prop} {w W : World} {L : List (Nat × Obj)}
variable {P : Program} {E : Nat → Value} {d : Option Nat} {ty : TypeId} {pos : String} {af : Array Edge} {g : Option (Nat × Bool)}
theorem vV {α : Type} {enc : α → List Value} (hk : ∀ x, (enc x).length = k) (c : 0 < k) (hi : ∀ x y, enc x = enc y → x = y) : ∀ {l m : List α}, (l.map enc).flatten = (m.map enc).flatten → l = m
 | [], [], _ => rfl
 | [], b :: m, h => by
  have := aH List.length h
  simp only [List.map_nil, List.flatten_nil, bw, aT, bJ, aK, hk] at this
  omega
 | a :: l, [], h => by
  have := aH List.length h
  simp only [List.map_nil, List.flatten_nil, bw, aT, bJ, aK, hk] at this
  omega
 | a :: l, b :: m, h => by
  simp only [aT, bJ] at h
  obtain ⟨h1, d⟩ := List.append_inj h (by rw [hk, hk])
  rw [hi _ _ h1, vV hk c hi d]
theorem Ct (x y : pO k) (h : ov x = ov y) : x = y := Subtype.ext h
theorem fN.pre {v1 : Value} {cl a : List (pO k)} (g : 0 < k) (h : fN e ov k v cl B) (h1 : fN e ov k v1 a B) (d : a.length ≤ cl.length) : a = cl.take a.length := by
 rcases h with ⟨rfl, rfl, rfl⟩ | ⟨t, cap, c, rfl, rfl, u, w, x, q⟩
 ·simp at d; simp [d]
 ·rcases h1 with ⟨_, _, h⟩ | ⟨g1, i, j, rfl, n, s, a2, a3, a4⟩
  ·cases h
  ·cases n
   refine vV xt g Ct ?_
   rw [← a4]
   have hle : a.length * k ≤ cl.length * k := bt _ d
   have : c.toList.take (a.length * k) = (c.toList.take (cl.length * k)).take (a.length * k) := by rw [dD, bU hle]
   rw [this, q]
   have o : (cl.map ov).flatten = ((cl.take a.length).map ov).flatten ++ ((cl.drop a.length).map ov).flatten := by rw [← List.flatten_append, ← bo, List.take_append_drop]
   have p : ((cl.take a.length).map ov).flatten.length = a.length * k := by rw [ly xt, bx, bU d]
   rw [o, ← p, List.take_left]
theorem ku.replicate {α β : Type} {Q : α → β → Prop} {a : α} {b : β} (h : Q a b) : ∀ n, ku Q (List.replicate n a) (List.replicate n b)
 | 0 => .nil
 | n + 1 => .cons h (ku.replicate h n)
end
theorem bS {α β : Type} {m : Option α} {f : α → Option β} {r : β} {G : Prop} (h : m.bind f = some r) (k : ∀ x, m = some x → f x = some r → G) : G :=
 let ⟨x, a, b⟩ := bind_some h
 k x a b
theorem sj {α : Type} {a b : α} (h : some a = some b) : a = b := Option.some.inj h
theorem bC {α : Type} {b : Bool} {x y r : α} {G : Prop} (h : (if b = true then x else y) = r) (a : b = true → x = r → G) (k2 : b = false → y = r → G) : G := by
 rcases xS b with e | e
 ·exact a e (AW e h)
 ·exact k2 e (A0 e h)
theorem cB {a b : Bool} (h : a = b) : Value.bool a = Value.bool b := aH Value.bool h
theorem nb {a b : Nat} (h : Nat.ble a b = true := by exact rfl) : a ≤ b := Nat.le_of_ble_eq_true h
def Cd : Nat → Nat → List Bool
 | 0, _ => []
 | n + 1, m => (m % 2 == 1) :: Cd n (m / 2)
def bm (n m : Nat) : Array Bool := (Cd n m).toArray
section
variable {P : Program} {n : Nat} {Q : gP} {E : Nat → Value} {W : World}
theorem CI {α : Type} {co : Operand} {b : Bool} {x y : Code} {A B r : α} (hm : (if b = true then A else B) = r) (a : fc E co = .bool b) (d : b = true → A = r → CW P n x Q E W) (c : b = false → B = r → CW P n y Q E W) : CW P n (.cond co x y) Q E W :=
 xr a (fun e => d e (AW e hm)) (fun e => c e (A0 e hm))
theorem CJ {c ρ : Type} {m : Option c} {k : c → Option ρ} {r : ρ} {x : Code} {K : (Nat → Value) → World → Prop} (hm : m.bind k = some r) (I : c → (Nat → Value) → World → Prop) (h1 : ∀ s, m = some s → CW P n x (iE (I s) Q) E W) (d : ∀ s E W, I s E W → k s = some r → K E W) : CW P n x (iE K Q) E W :=
 let ⟨s, a, b⟩ := bind_some hm
 yz (I s) (h1 s a) (fun E W h => d s E W h b)
theorem uz {d ρ c : Type} {m : Option (c ⊕ d)} {k : c ⊕ d → Option ρ} {r : ρ} {x : Code} {K : (Nat → Value) → World → Prop} (hm : m.bind k = some r) (I : d → (Nat → Value) → World → Prop) (h1 : ∀ s, m = some s → k s = some r → CW P n x (iE (fun E W => ∃ t, s = .inr t ∧ I t E W) Q) E W) (g : ∀ s E W, I s E W → k (.inr s) = some r → K E W) : CW P n x (iE K Q) E W :=
 let ⟨s, a, b⟩ := bind_some hm
 yz (fun E W => ∃ t, s = .inr t ∧ I t E W) (h1 s a b) (fun E W ⟨t, e, h⟩ => g t E W h (by subst e; exact b))
theorem LJ {c ρ : Type} {m : Option c} {k : c → Option ρ} {r : ρ} {ops : Array Oper} {rest : List Oper} (hm : m.bind k = some r) (I : c → (Nat → Value) → World → Prop) (j : Nat) (d : ∀ s E W, I s E W → k s = some r → LW P n ops Q (rest.drop j) E W) (h1 : ∀ s, m = some s → (∀ E W, I s E W → LW P n ops Q (rest.drop j) E W) → LW P n ops Q rest E W) : LW P n ops Q rest E W :=
 let ⟨s, a, b⟩ := bind_some hm
 h1 s a (fun E W h => d s E W h b)
theorem PJ {c ρ : Type} {m : Option c} {k : c → Option ρ} {r : ρ} {ops : Array Oper} {S : Array Bool → World → Prop} {fuel : Nat} {listed : Array Bool} (hm : m.bind k = some r) (I : c → (Nat → Value) → World → Prop) (g : Array Bool) (d : Nat) (i : ∀ s E W, I s E W → k s = some r → PX P n ops Q S d g E W) (h1 : ∀ s, m = some s → (∀ E W, I s E W → PX P n ops Q S d g E W) → PX P n ops Q S fuel listed E W) : PX P n ops Q S fuel listed E W :=
 let ⟨s, a, b⟩ := bind_some hm
 h1 s a (fun E W h => i s E W h b)
theorem cF (n : Nat) {f : FuncId} {fn : Func} {c : Code} {args : List Value} {w : World} {R : Ending → World → Prop} (a : P.funcs[f]? = some fn) (d : fn.body = some c) (h : CW P n c (mu P fn R) (mx args) w) (i : fn.ntmps = n := by exact rfl) (g : args.length ≤ n := by exact nb) : Calls P f args.toArray w R := nr a d i g h
end
section
variable {dd : Bool} {P : Program} {fn : Func} {E : Nat → Value} {W w : World} {μ : fz} {L : List (Nat × Obj)}
theorem rP {t : Tmp} {v : Value} (a : ST dd ga w W μ L) (c : fn.results = #[.tmp t] := by exact rfl) (d : E t = v := by exact rfl) : mu P fn (fun e W' => e = .returned v ∧ Ex dd w W') .ret E W := fR c d ⟨rfl, a.ex⟩
end
theorem aL {E : Nat → Value} {ax : Array Operand} {l : List Value} (h : ax.toList.map (fc E) = l) : ax.map (fc E) ++ (#[] : Array Value) = l.toArray := by subst h; apply Array.ext'; simp
section
variable {dd : Bool}
variable {P : Program} {E : Nat → Value} {W : World} {d : Option Nat} {ty : TypeId} {pos : String} {af : Array Edge} {g : Option (Nat × Bool)}
 {F : Nat → Prop} {w : World} {μ : fz} {L : List (Nat × Obj)}
variable {f : FuncId} {fv : Operand} {ax : Array Operand} {ats : Array TypeId} {args : List Value} {v : Value} {K : Value → World → Prop}
theorem Eg (a : ST dd F w W μ L) (he : ∀ args w, (callFunc f args).run P w = .ok (.enter f args) w) (c : fV dd P f args W v) (h : ∀ W', ST dd F w W' μ L → K v W') (i : fc E fv = .func (.func f) #[] #[] := by exact rfl) (ha : ax.toList.map (fc E) = args := by exact rfl) : ic P E ⟨d, .call ⟨.value fv, ax, ats⟩, ty, pos, af, g⟩ W K := xl a i he (aL ha) c h
theorem nX {α : Type} {e : TypeId} {enc : α → List Value} {k : Nat} {l : List α} {Y : List (Nat × Obj)} (a : ST dd F w W μ Y) (he : ∀ args w, (callFunc f args).run P w = .ok (.enter f args) w) (c : gY dd P f args W e enc k l) (h : ∀ W' v μ' R, ST dd F w W' μ' (R ++ Y) → fA μ μ' → Lo F w μ μ' → fN e enc k v l R → K v W') (i : fc E fv = .func (.func f) #[] #[] := by exact rfl) (ha : ax.toList.map (fc E) = args := by exact rfl) : ic P E ⟨d, .call ⟨.value fv, ax, ats⟩, ty, pos, af, g⟩ W K := xp _ a i he (aL ha) c h
theorem yR {K' : Value → List (Nat × Obj) → World → Prop} {L0 L2 : List (Nat × Obj)} (i : ST dd F w W μ L) (j : L.Perm (L0 ++ L2)) (he : ∀ args w, (callFunc f args).run P w = .ok (.enter f args) w) (k : qC L0 W → (L0.map (·.1)).Nodup → fA μ (jy W L0) → (∀ b o, (b, o) ∈ L2 → jy W L0 b = some o) → gq dd P f args W L0 K') (h : ∀ W' v μ' L1, ST dd F w W' μ' (L1 ++ L2) → fA μ μ' → Lo F w μ μ' → (∀ b, W.heap.size ≤ b → ∀ o, jy W' L1 b = some o → μ' b = some o) → K' v L1 W' → K v W') (n : fc E fv = .func (.func f) #[] #[] := by exact rfl) (ha : ax.toList.map (fc E) = args := by exact rfl) : ic P E ⟨d, .call ⟨.value fv, ax, ats⟩, ty, pos, af, g⟩ W K :=
 AN L0 L2 i j n he (aL ha) (fun a b c d => by have := k a b c d; simpa using this) h
theorem vE {K' : Value → List (Nat × Obj) → fz → Prop} {L0 L2 : List (Nat × Obj)} (i : ST dd F w W μ L) (j : L.Perm (L0 ++ L2)) (he : ∀ args w, (callFunc f args).run P w = .ok (.enter f args) w) (k : qC L0 W → (L0.map (·.1)).Nodup → fA μ (jy W L0) → (∀ b o, (b, o) ∈ L2 → jy W L0 b = some o) → gV dd P f args W μ L0 K') (h : ∀ W' v μ' L1, ST dd F w W' μ' (L1 ++ L2) → fA μ μ' → Lo F w μ μ' → K' v L1 μ' → K v W') (n : fc E fv = .func (.func f) #[] #[] := by exact rfl) (ha : ax.toList.map (fc E) = args := by exact rfl) : ic P E ⟨d, .call ⟨.value fv, ax, ats⟩, ty, pos, af, g⟩ W K :=
 wi L0 L2 i j n he (aL ha) (fun a b c d => by have := k a b c d; simpa using this) h
end
section
variable {E : Nat → Value} {x1 x2 x3 x4 x5 x6 x7 x8 : Operand} {v1 v2 v3 v4 v5 v6 v7 v8 : Value}
theorem CG (h1 : fc E x1 = v1) : [x1].map (fc E) = [v1] := by rw [← h1]; rfl
end
def CD (R : List (Nat × Obj)) (k : Nat) (p : Value) (i a : Nat) : Prop := ∃ g o, R = [(g, o)] ∧ p = .pointer (some ⟨g, i * k + a, none⟩)
theorem rj.f {R : List (Nat × Obj)} {k : Nat} {p : Value} {i : Nat} (h : rj R k p i) : CD R k p i 0 := h
section
variable {P : Program} {E : Nat → Value} {W : World} {d : Option Nat} {ty : TypeId} {pos : String} {af : Array Edge} {g : Option (Nat × Bool)}
 {dd : Bool} {F : Nat → Prop} {w : World} {μ : fz} {L : List (Nat × Obj)} {α : Type} {e' : TypeId} {enc : α → List Value} {k : Nat} {v : Value} {l : List α} {R : List (Nat × Obj)}
theorem fN.put (h : fN e' enc k v l R) (hk : ∀ x, (enc x).length = k) {p : Value} {i : Nat} (hp : rj R k p i) {x0 : α} (u : l[i]? = some x0) (x1 : α) :
  ∃ g a, R = [(g, .cells a e' (0, 0))] ∧ p = .pointer (some ⟨g, i * k, none⟩) ∧ i * k + k ≤ a.size ∧ (∀ j y, (enc x0)[j]? = some y → a[i * k + j]? = some y) ∧
   fN e' enc k v (l.set i x1) [(g, .cells (a.toList.take (i * k) ++ enc x1 ++ a.toList.drop (i * k + k)).toArray e' (0, 0))] := by
 have o : i < l.length := (aM.1 u).1
 obtain ⟨s, a, cap, rfl, rfl, t, A, n, D, rfl, F⟩ := qy h hk hp u
 have hle : i * k + k ≤ cap * k := by
  have : (i + 1) * k ≤ cap * k := bt _ (by omega)
  rwa [bz, eT] at this
 have c : i * k + k ≤ l.length * k := by
  have : (i + 1) * k ≤ l.length * k := bt _ (by omega)
  rwa [bz, eT] at this
 have hlen : l.length * k ≤ cap * k := bt _ t
 refine ⟨s, a, rfl, rfl, by rw [n]; exact hle, F, .inr ⟨s, cap, _, by simp, rfl, by simpa using t, A, ?_, ?_⟩⟩
 ·show ((a.toList.take (i * k) ++ (enc x1) ++ a.toList.drop (i * k + k)).toArray).size = _
  have d : a.toList.length = cap * k := by simpa using n
  rw [bQ, aK, aK, bx, dp, hk, d, bU (by omega)]; omega
 ·rw [dR, sE hk l i x1 o, ← D]
  have w : (a.toList.take (l.length * k)).take (i * k) = a.toList.take (i * k) := by rw [dD]; congr 1; omega
  have z : (a.toList.take (l.length * k)).drop (i * k + k) = (a.toList.drop (i * k + k)).take (l.length * k - (i * k + k)) := by rw [List.drop_take]
  rw [w, z]
  show List.take (l.length * k) (a.toList.take (i * k) ++ enc x1 ++ a.toList.drop (i * k + k)) = _
  have d : a.toList.length = cap * k := by simpa using n
  have q : (a.toList.take (i * k) ++ enc x1).length = i * k + k := by rw [aK, bx, hk, d, bU (by omega)]
  rw [dK, cd (by rw [q]; exact c), q]
end
theorem oc {v : Value} (h : v.cells.toList.all Value.oneCell' = true := by exact rfl) : ∀ u ∈ v.cells.toList, u.oneCell' = true := List.all_eq_true.1 h
theorem dc {p : Prop} [Decidable p] (h : p := by decide) : p := h
theorem kr {p : Prop} (h : p := by kernel_rfl) : p := h
abbrev LO := List (Nat × Obj)
abbrev Ob (c : Array Value) (t : TypeId) : Obj := .cells c t (0, 0)
abbrev Ol (c : List Value) (t : TypeId) : Obj := .cells c.toArray t (0, 0)
theorem nq {P : Program} {t e : TypeId} {m k : Nat} {z : Value} {qs : Array (Nat × Value)} {cs : Array Value} (i : P.underlying t = some (.slice e)) (g : ∀ w, (sizeOf e).run P w = .ok k w) (n : ∀ w, (zeroValue e).run P w = .ok z w) (hm : m * k ≤ 16777216 := by decide) (d : qs.toList = (qs.toList.map (·.2)).zipIdx.map (fun p => (p.2, p.1)) := by exact rfl) (j : (qs.toList.map (·.2)).all (fun v => v.cells.size == k) = true := by exact rfl) (c : (qs.toList.map (·.2)).length = m := by exact rfl) (a : ((qs.toList.map (·.2)).flatMap (fun v => v.cells.toList)).toArray = cs := by exact rfl) (W : World) :
  (Instr.buildSlice t m qs).run P W = .ok (.slice (some ⟨W.heap.size, 0, none⟩) m m) (W.alloc (.cells cs e (0, 0))) :=
 mr _ i g n hm d (fun v h => eq_of_beq (List.all_eq_true.1 j v h)) c a W
section
variable {dd : Bool} {P : Program} {fn : Func} {E : Nat → Value} {W w : World} {μ : fz} {L L0 : List (Nat × Obj)}
theorem rQ {α : Type} {f : α → Value} {a r : α} {t : Tmp} (hm : some a = some r) (c : ST dd ga w W μ L) (d : fn.results = #[.tmp t] := by exact rfl) (g : E t = f a := by exact rfl) : mu P fn (fun e W' => e = .returned (f r) ∧ Ex dd w W') .ret E W := by
 obtain rfl := sj hm; exact fR d g ⟨rfl, c.ex⟩
theorem cG (n : Nat) {f : FuncId} {c : Code} {args : List Value} {v : Value} (a : P.funcs[f]? = some fn) (d : fn.body = some c) (h : ST dd ga w w (hp w) [] → CW P n c (mu P fn (fun e j => e = .returned v ∧ Ex dd w j)) (mx args) w) (i : fn.ntmps = n := by exact rfl) (g : args.length ≤ n := by exact nb) : fV dd P f args w v := nr a d i g (h (ST.start w))
theorem tK {K : Value → List (Nat × Obj) → World → Prop} (n : Nat) {f : FuncId} {c : Code} {args : List Value} (a : P.funcs[f]? = some fn) (g : fn.body = some c) (h : ST dd ga w w (hp w) [] → CW P n c (mu P fn (fun e d => ∃ v L1, e = .returned v ∧ jg dd [] L1 w d ∧ K v L1 d)) (mx args) w) (j : fn.ntmps = n := by exact rfl) (i : args.length ≤ n := by exact nb) : gq dd P f args w [] K := nr a g j i (h (ST.start w))
theorem qV {K : Value → List (Nat × Obj) → World → Prop} (g : ju μ L0 w) (n : Nat) {f : FuncId} {c : Code} {args : List Value} (a : P.funcs[f]? = some fn) (i : fn.body = some c) (h : ST dd (keys L0) w w μ L0 → CW P n c (mu P fn (fun e d => ∃ v L1, e = .returned v ∧ jg dd L0 L1 w d ∧ K v L1 d)) (mx args) w) (k : fn.ntmps = n := by exact rfl) (j : args.length ≤ n := by exact nb) : gq dd P f args w L0 K := nr a i k j (h (ST.lq g))
theorem Ac {K : Value → List (Nat × Obj) → fz → Prop} (g : ju μ L0 w) (n : Nat) {f : FuncId} {c : Code} {args : List Value} (a : P.funcs[f]? = some fn) (i : fn.body = some c) (h : ST dd (keys L0) w w μ L0 → CW P n c (mu P fn (fun e d => ∃ v L1 μ1, e = .returned v ∧ jg dd L0 L1 w d ∧ fA μ μ1 ∧ Lo (keys L0) w μ μ1 ∧ fA μ1 (jy d L1) ∧ K v L1 μ1)) (mx args) w) (k : fn.ntmps = n := by exact rfl) (j : args.length ≤ n := by exact nb) : gV dd P f args w μ L0 K := nr a i k j (h (ST.lq g))
end
section
variable {dd : Bool}
variable {P : Program} {E : Nat → Value} {W : World} {d : Option Nat} {ty : TypeId} {pos : String} {af : Array Edge} {g : Option (Nat × Bool)}
 {F : Nat → Prop} {w : World} {μ : fz} {L : List (Nat × Obj)}
variable {f : FuncId} {fv : Operand} {ax : Array Operand} {ats : Array TypeId} {args : List Value} {v : Value} {K : Value → World → Prop}
theorem eM {K' : Value → List (Nat × Obj) → World → Prop} {L0 L2 : List (Nat × Obj)} (i : ST dd F w W μ L) (j : L.Perm (L0 ++ L2)) (he : ∀ args w, (callFunc f args).run P w = .ok (.enter f args) w) (k : ju (jy W L0) L0 W → fA μ (jy W L0) → gq dd P f args W L0 K') (h : ∀ W' v μ' L1, ST dd F w W' μ' (L1 ++ L2) → fA μ μ' → Lo F w μ μ' → (∀ b, W.heap.size ≤ b → ∀ o, jy W' L1 b = some o → μ' b = some o) → K' v L1 W' → K v W') (n : fc E fv = .func (.func f) #[] #[] := by exact rfl) (ha : ax.toList.map (fc E) = args := by exact rfl) : ic P E ⟨d, .call ⟨.value fv, ax, ats⟩, ty, pos, af, g⟩ W K :=
 yR i j he (fun a b c _ => k ⟨a, b, fA.refl _⟩ c) h n ha
theorem eD {K' : Value → List (Nat × Obj) → fz → Prop} {L0 L2 : List (Nat × Obj)} (i : ST dd F w W μ L) (j : L.Perm (L0 ++ L2)) (he : ∀ args w, (callFunc f args).run P w = .ok (.enter f args) w) (k : ju μ L0 W → gV dd P f args W μ L0 K') (h : ∀ W' v μ' L1, ST dd F w W' μ' (L1 ++ L2) → fA μ μ' → Lo F w μ μ' → K' v L1 μ' → K v W') (n : fc E fv = .func (.func f) #[] #[] := by exact rfl) (ha : ax.toList.map (fc E) = args := by exact rfl) : ic P E ⟨d, .call ⟨.value fv, ax, ats⟩, ty, pos, af, g⟩ W K :=
 vE i j he (fun a b c _ => k ⟨a, b, c⟩) h n ha
end
def yf (op : BinOp) : Value → Value → Option Value
 | .int k a, .int k' b => if k = k' then uW k op a b else none
 | _, _ => none
def AZ (i : Nat) : Value → Option Value
 | .tuple vs => vs[i]?
 | _ => none
def vc : Value → Bool
 | .pointer (some ⟨_, _, none⟩) => true
 | _ => false
def Bz (o : Nat) : Value → Value
 | .pointer (some ⟨b, k, none⟩) => .pointer (some ⟨b, k + o, none⟩)
 | v => v
theorem uD {v : Value} (h : vc v = true) : ∃ b k, v = .pointer (some ⟨b, k, none⟩) := by
 unfold vc at h; split at h
 ·exact ⟨_, _, rfl⟩
 ·cases h
section
variable {P : Program} {n : Nat} {Q : gP} {E : Nat → Value} {W : World} {ops : Array Oper} {rest : List Oper}
 {d j t : Nat} {want b : Bool} {v : Value} {ins : Go.Op} {ty : TypeId} {pos : String} {af : Array Edge} {A : Value → Prop} {x y : Operand}
theorem Wm (h : LW P n ops Q rest (gx E d (fc E x)) W) (a : d < n := by decide) : LW P n ops Q (⟨some d, .move x, ty, pos, af, none⟩ :: rest) E W := V (fp rfl) h a
theorem Wa (h : LW P n ops Q rest (gx E d (fc E x)) W) (a : d < n := by decide) : LW P n ops Q (⟨some d, .assign x, ty, pos, af, none⟩ :: rest) E W := V (fT rfl) h a
theorem Wh (c : fc E x = v) (h : LW P n ops Q rest (gx E d v) W) (a : d < n := by decide) : LW P n ops Q (⟨some d, .move x, ty, pos, af, none⟩ :: rest) E W := V (fp c) h a
theorem Wg (c : fc E x = v) (h : LW P n ops Q rest (gx E d v) W) (a : d < n := by decide) : LW P n ops Q (⟨some d, .assign x, ty, pos, af, none⟩ :: rest) E W := V (fT c) h a
theorem Wx {i : Nat} (a : AZ i (fc E x) = some v) (h : LW P n ops Q rest (gx E d v) W) (c : d < n := by decide) : LW P n ops Q (⟨some d, .extract x i, ty, pos, af, none⟩ :: rest) E W := by
 unfold AZ at a; split at a
 ·rename_i vs e; exact V (iV e a) h c
 ·cases a
theorem Wi {op : BinOp} {tx tv : TypeId} (c : yf op (fc E x) (fc E y) = some v) (h : LW P n ops Q rest (gx E d v) W) (j : d < n := by decide) : LW P n ops Q (⟨some d, .binOp op tx x y tv, ty, pos, af, none⟩ :: rest) E W := by
 unfold yf at c; split at c
 ·rename_i k a k' b g i
  split at c
  ·rename_i e; subst e; exact V (gl g i c) h j
  ·cases c
 ·cases c
theorem Wf {t : TypeId} {f off : Nat} (a : gQ P t f off) (h : LW P n ops Q rest (gx E d (Bz off (fc E x))) W) (hp : vc (fc E x) = true := by exact rfl) (c : d < n := by decide) : LW P n ops Q (⟨some d, .fieldAddr t x f, ty, pos, af, none⟩ :: rest) E W := by
 obtain ⟨b, k, e⟩ := uD hp
 refine V (fh a e) ?_ c
 rw [e] at h; exact h
theorem Wn (h : LW P n ops Q rest (gx E d (fc E x)) W) (hp : vc (fc E x) = true := by exact rfl) (a : d < n := by decide) : LW P n ops Q (⟨some d, .nilCheck x, ty, pos, af, none⟩ :: rest) E W := by
 obtain ⟨b, k, e⟩ := uD hp
 refine V (ig e) ?_ a
 rw [e] at h; exact h
theorem un (h : b = !want) (k : LW P n ops Q rest (gx E d undef) W) (c : (ops[j]?).bind (·.dst) = some t := by exact rfl) (a : E t = .bool b := by exact rfl) (i : t < n := by decide) (g : d < n := by decide) :
  LW P n ops Q (⟨some d, ins, ty, pos, af, some (j, want)⟩ :: rest) E W := Vn c (by rw [a, h]) k i g
theorem ug (h : b = want) (i : fQ P E ⟨some d, ins, ty, pos, af, some (j, want)⟩ W v W) (k : LW P n ops Q rest (gx E d v) W) (c : (ops[j]?).bind (·.dst) = some t := by exact rfl) (a : E t = .bool b := by exact rfl) (o : t < n := by decide) (g : d < n := by decide) :
  LW P n ops Q (⟨some d, ins, ty, pos, af, some (j, want)⟩ :: rest) E W := Vg c (by rw [a, h]) i k o g
theorem mD (h : b = want) (k : ic P E ⟨some d, ins, ty, pos, af, some (j, want)⟩ W fun v W' => LW P n ops Q rest (gx E d v) W') (c : (ops[j]?).bind (·.dst) = some t := by exact rfl) (a : E t = .bool b := by exact rfl) (i : t < n := by decide) (g : d < n := by decide) :
  LW P n ops Q (⟨some d, ins, ty, pos, af, some (j, want)⟩ :: rest) E W := sv c (by rw [a, h]) k i g
theorem CA (h : b = want) (i : ∃ p, A p ∧ ∀ W, fQ P E ⟨some d, ins, ty, pos, af, some (j, want)⟩ W p W) (k : ∀ p, A p → LW P n ops Q rest (gx E d p) W) (c : (ops[j]?).bind (·.dst) = some t := by exact rfl) (a : E t = .bool b := by exact rfl) (o : t < n := by decide) (g : d < n := by decide) :
  LW P n ops Q (⟨some d, ins, ty, pos, af, some (j, want)⟩ :: rest) E W := Cc c (by rw [a, h]) i k o g
section
variable {dd : Bool} {F : Nat → Prop} {w : World} {μ : fz} {L : List (Nat × Obj)} {T : TypeId} {a off : Nat} {cs : Array Value} {fr : Nat × Nat}
theorem VA {t : TypeId} (c : ST dd F w W μ L) (i : (a, Obj.cells cs T fr) ∈ L) (ys : List Value) (g : ∀ w, (isAgg t).run P w = .ok true w) (j : ∀ w, (sizeOf t).run P w = .ok ys.length w) (h : LW P n ops Q rest (gx E d (.agg ys.toArray)) W) (o : fc E x = .pointer (some ⟨a, off, none⟩) := by exact rfl) (p : (cs.toList.drop off).take ys.length = ys := by exact rfl) (k : d < n := by decide) : LW P n ops Q (⟨some d, .load t x, ty, pos, af, none⟩ :: rest) E W := V (fj o (fy c.has i ys p g j)) h k
theorem VB {t : TypeId} (c : ST dd F w W μ L) (i : (a, Obj.cells cs T fr) ∈ L) (k : fc E x = .pointer (some ⟨a, off, none⟩)) (o : cs[off]? = some v) (g : ∀ w, (isAgg t).run P w = .ok false w) (h : LW P n ops Q rest (gx E d v) W) (j : d < n := by decide) : LW P n ops Q (⟨some d, .load t x, ty, pos, af, none⟩ :: rest) E W := V (fj k (fG c.has i o g)) h j
end
section
variable {K : (Nat → Value) → World → Prop} {Q' : gP} {c : Code} {id id2 : Nat} {l : List Oper} {z : Code}
theorem sg (h : LW P n l.toArray (iE (fun E W => CW P n c Q E W) Q) l E W) : CW P n (.seq (.region id l.toArray false) c) Q E W := fq (fi h)
theorem ln (h : K E W) : LW P n ops (iE K Q) [] E W := fL (fB h)
theorem lr (h : LW P n l.toArray (iE (fun E W => CW P n c Q E W) Q) l E W) : LW P n ops (iE (fun E W => CW P n (.seq (.region id l.toArray false) c) Q E W) Q') [] E W := fL (fB (fq (fi h)))
theorem lS (h : LW P n l.toArray (iE (fun E W => CW P n c (iE (fun E W => CW P n z Q E W) Q) E W) (iE (fun E W => CW P n z Q E W) Q)) l E W) : LW P n ops (iE (fun E W => CW P n (.seq (.seq (.region id l.toArray false) c) z) Q E W) Q') [] E W := fL (fB (fq (fq (fi h))))
theorem bg (h : LW P n l.toArray (iE (fun E W => CW P n c (mj id2 Q) E W) (mj id2 Q)) l E W) : CW P n (.block id2 (.seq (.region id l.toArray false) c)) Q E W := jd (fq (fi h))
theorem kg (h : LW P n l.toArray (iE (fun E W => CW P n c Q E W) Q) l E W) : CW P n .skip (iE (fun E W => CW P n (.seq (.region id l.toArray false) c) Q E W) Q') E W := gA (fB (fq (fi h)))
theorem kS (h : LW P n l.toArray (iE (fun E W => CW P n c (iE (fun E W => CW P n z Q E W) Q) E W) (iE (fun E W => CW P n z Q E W) Q)) l E W) : CW P n .skip (iE (fun E W => CW P n (.seq (.seq (.region id l.toArray false) c) z) Q E W) Q') E W := gA (fB (fq (fq (fi h))))
theorem lt (h : Q .ret E W) : LW P n ops (iE (fun E W => CW P n .ret Q E W) Q') [] E W := fL (fB (gd h))
theorem kn (h : K E W) : CW P n .skip (iE K Q) E W := gA (fB h)
end
end
theorem vt.mono {α β : Type} {P : Program} {fv : Value} {μ μ0 : fz} {a : α → List Value} {c : β → Value} {pm : α → Option β} (h : vt P fv μ a c pm) (i : fA μ μ0) : vt P fv μ0 a c pm := by
 obtain ⟨f, caps, h1, d, g⟩ := h
 exact ⟨f, caps, h1, d, fun W x r h => g W x r (i.trans h)⟩
theorem vt.form {α β : Type} {P : Program} {fv : Value} {μ : fz} {c : α → List Value} {d : β → Value} {pm : α → Option β} (h : vt P fv μ c d pm) : ∃ f a b, fv = .func f a b := let ⟨f, b, h, _⟩ := h; ⟨_, _, b, h⟩
def rU {S : Type} (rd : S → List Int) : Int ⊕ S → Int
 | .inl x => x
 | .inr r => if (rd r).length > 0 then 13 else 0
noncomputable def qT (s : ByteArray) (lo hi : Int) : Option ByteArray := if 0 ≤ lo ∧ lo ≤ hi ∧ hi ≤ s.size then some (s.extract lo.toNat hi.toNat) else none
theorem vT {s r : ByteArray} {lo hi : Int} (h : qT s lo hi = some r) : (0 ≤ lo ∧ lo ≤ hi ∧ hi ≤ s.size) ∧ r = s.extract lo.toNat hi.toNat := by
 unfold qT at h
 split at h
 ·cases h; exact ⟨‹_›, rfl⟩
 ·cases h
section
variable {P : Program} {E : Nat → Value} {W : World} {d : Option Nat} {ty : TypeId} {pos : String} {af : Array Edge} {g : Option (Nat × Bool)} {t : TypeId} {x lo hi : Operand} {k k' : IntKind} {i j : Int} {s r : ByteArray}
theorem uv (j : P.underlying t = some .string) (n : fc E x = .string s) (c : fc E lo = .int k i) (h : qT s i s.size = some r) : fQ P E ⟨d, .slice t x (some lo) none none, ty, pos, af, g⟩ W (.string r) W := by
 obtain ⟨⟨h1, a, o⟩, rfl⟩ := vT h
 show (do pure (.value (← Instr.sliceAt t (fc E x) (some (fc E lo)) none none)) : Sem Next).run P W = _
 rw [n, c]
 simp [Instr.sliceAt, Instr.slice, aC j, Instr.sliceBounds, Instr.sliceBound, asIntOf, h1, a]
theorem yO (n : P.underlying t = some .string) (o : fc E x = .string s) (i : fc E hi = .int k j) (h : qT s 0 j = some r) : fQ P E ⟨d, .slice t x none (some hi) none, ty, pos, af, g⟩ W (.string r) W := by
 obtain ⟨⟨h1, a, c⟩, rfl⟩ := vT h
 show (do pure (.value (← Instr.sliceAt t (fc E x) none (some (fc E hi)) none)) : Sem Next).run P W = _
 rw [o, i]
 simp [Instr.sliceAt, Instr.slice, aC n, Instr.sliceBounds, Instr.sliceBound, asIntOf, a, c]
end
def xX (P : Program) (fn : Func) (R : Ending → World → Prop) : gP
 | .normal, E, W | .ret, E, W => ∃ v, (∀ tmps : Array Value, (∀ t, tmps.getD t undef = E t) → (results fn tmps).run P W = .ok v W) ∧ R (.returned v) W
 | .panic c, _, W => R (.panicked c) W
 | _, _, _ => False
theorem kV {P : Program} {fn : Func} {R : Ending → World → Prop} {E : Nat → Value} {W : World} (h : mu P fn R .ret E W) : xX P fn R .ret E W := h
theorem iN {P : Program} {f : FuncId} {fn : Func} {c : Code} {args : List Value} {w : World} {R : Ending → World → Prop} {n : Nat} (q : P.funcs[f]? = some fn) (p : fn.body = some c) (s : fn.ntmps = n) (ha : args.length ≤ n) (h : CW P n c (xX P fn R) (mx args) w) : Calls P f args.toArray w R := by
 refine calls_of_wp q p ?_
 have j : Ag n { tmps := args.toArray ++ Array.replicate (fn.ntmps - args.toArray.size) undef, defers := [] } (mx args) := by
  refine ⟨by simp; omega, rfl, fun t => ?_⟩
  simp only [mx, bq, dj, da, dw, bQ, db]
  by_cases o : t < args.length
  ·rw [aB o]
  ·rw [aA o, cr (by omega)]
   split <;> simp
 refine dy (h _ j) (fun e a u g => ?_)
 cases e with
 | normal =>
  obtain ⟨E, d, v, k, i⟩ := g
  exact ⟨d.2.1, v, k _ d.2.2, i⟩
 | ret =>
  obtain ⟨E, d, v, k, i⟩ := g
  exact ⟨d.2.1, v, k _ d.2.2, i⟩
 | exit id => obtain ⟨E, d, h⟩ := g; exact h.elim
 | goto l => obtain ⟨E, d, h⟩ := g; exact h.elim
 | panic c => exact g
 | outgrown => exact g.elim
def wS (P : Program) (E : Nat → Value) (o : Oper) (W : World) (X : List PanicEntry → World → Prop) : Prop :=
 (∃ v W', (execOp (fc E) o).run P W = .halt (.panic v) W' ∧ X [{ v := v, recovered := false }] W') ∨
 (∃ f args, (execOp (fc E) o).run P W = .ok (.enter f args) W ∧ Calls P f args W fun e a => ∃ c, e = .panicked c ∧ X c a)
theorem wS.wp {P : Program} {n : Nat} {E : Nat → Value} {o : Oper} {W : World} {X : List PanicEntry → World → Prop} (h : wS P E o W X) {a : Act} (ha : Ag n a E) {K : Exit → Act → World → Prop} {J : Act → World → Prop} (hk : ∀ c w, X c w → K (.panic c) a w) : o.wp P a W J K := by
 unfold Oper.wp
 rw [ha.eval]
 rcases h with ⟨v, W', h1, d⟩ | ⟨f, args, h1, d⟩
 ·rw [h1]; exact hk _ _ d
 ·rw [h1, cj]
  refine bp d ?_
  rintro e i ⟨c, rfl, g⟩
  exact hk _ _ g
section
variable {P : Program} {n : Nat} {Q : gP} {E : Nat → Value} {W : World} {ops : Array Oper} {rest : List Oper} {S : Array Bool → World → Prop} {fuel : Nat} {listed : Array Bool}
theorem jq {o : Oper} (hw : gT n ops E o) (h : wS P E o W fun c w => Q (.panic c) E0 w) : LW P n ops Q (o :: rest) E W := fun a ha => by
 unfold wpList
 rw [aB (hw.of ha)]
 refine .inl ?_
 exact h.wp ha (fun c w d => ⟨ha.2.1, d⟩)
end
def gi {R : Type} (dd : Bool) (w : World) (μ0 : fz) (L0 : List (Nat × Obj)) (s : Int ⊕ R) (K : R → Value → List (Nat × Obj) → fz → Prop) (X : Int → List PanicEntry → List (Nat × Obj) → fz → Prop) : Ending → World → Prop := fun e a =>
 match s with
 | .inl x => ∃ c L1 μ1, e = .panicked c ∧ jg dd L0 L1 w a ∧ fA μ0 μ1 ∧ Lo (keys L0) w μ0 μ1 ∧ fA μ1 (jy a L1) ∧ X x c L1 μ1
 | .inr r => ∃ v L1 μ1, e = .returned v ∧ jg dd L0 L1 w a ∧ fA μ0 μ1 ∧ Lo (keys L0) w μ0 μ1 ∧ fA μ1 (jy a L1) ∧ K r v L1 μ1
def rR (dd : Bool) (P : Program) (f : FuncId) (args : List Value) (w : World) (μ0 : fz) (L0 : List (Nat × Obj)) (X : List PanicEntry → List (Nat × Obj) → fz → Prop) : Prop :=
 Calls P f args.toArray w fun e a => ∃ c L1 μ1, e = .panicked c ∧ jg dd L0 L1 w a ∧ fA μ0 μ1 ∧ Lo (keys L0) w μ0 μ1 ∧ fA μ1 (jy a L1) ∧ X c L1 μ1
def fI {R : Type} (dd : Bool) (P : Program) (f : FuncId) (args : List Value) (w : World) (μ0 : fz) (L0 : List (Nat × Obj)) (s : Int ⊕ R) (K : R → Value → List (Nat × Obj) → fz → Prop) (X : Int → List PanicEntry → List (Nat × Obj) → fz → Prop) : Prop :=
 Calls P f args.toArray w (gi dd w μ0 L0 s K X)
theorem fI.r {R : Type} {dd : Bool} {P : Program} {f : FuncId} {args : List Value} {w : World} {μ0 : fz} {L0 : List (Nat × Obj)} {r : R} {K : R → Value → List (Nat × Obj) → fz → Prop} {X : Int → List PanicEntry → List (Nat × Obj) → fz → Prop} (h : fI dd P f args w μ0 L0 (.inr r) K X) : gV dd P f args w μ0 L0 (K r) := h
theorem fI.l {R : Type} {dd : Bool} {P : Program} {f : FuncId} {args : List Value} {w : World} {μ0 : fz} {L0 : List (Nat × Obj)} {x : Int} {K : R → Value → List (Nat × Obj) → fz → Prop} {X : Int → List PanicEntry → List (Nat × Obj) → fz → Prop} (h : fI dd P f args w μ0 L0 (.inl x : Int ⊕ R) K X) : rR dd P f args w μ0 L0 (X x) := h
theorem gS {K : (Nat → Value) → World → Prop} {Q : gP} {c : List PanicEntry} {E : Nat → Value} {W : World} (h : Q (.panic c) E W) : iE K Q (.panic c) E W := h
theorem oK {id : Nat} {Q : gP} {c : List PanicEntry} {E : Nat → Value} {W : World} (h : Q (.panic c) E W) : mj id Q (.panic c) E W := h
theorem iw {P : Program} {fn : Func} {R : Ending → World → Prop} {c : List PanicEntry} {E : Nat → Value} {W : World} (h : R (.panicked c) W) : xX P fn R (.panic c) E W := h
section
variable {P : Program} {W : World} {E : Nat → Value} {d : Option Nat} {ty : TypeId} {pos : String} {af : Array Edge} {g : Option (Nat × Bool)} {F : Nat → Prop} {w : World} {μ : fz} {L : List (Nat × Obj)} {dd : Bool}
theorem gU {X : List PanicEntry → World → Prop} {X' : List PanicEntry → List (Nat × Obj) → fz → Prop} {f : FuncId} {fv : Operand} {ax : Array Operand} {ats : Array TypeId} {caps : Array Value} {args : List Value} (L0 L2 : List (Nat × Obj)) (a : ST dd F w W μ L) (i : L.Perm (L0 ++ L2)) (z : fc E fv = .func (.func f) #[] caps) (he : ∀ args w, (callFunc f args).run P w = .ok (.enter f args) w) (ha : ax.map (fc E) ++ (#[] : Array Value) = args.toArray) (y : qC L0 W → (L0.map (·.1)).Nodup → fA μ (jy W L0) → (∀ b o, (b, o) ∈ L2 → jy W L0 b = some o) → rR dd P f (args ++ caps.toList) W μ L0 X') (h : ∀ W' c μ' L1, ST dd F w W' μ' (L1 ++ L2) → fA μ μ' → Lo F w μ μ' → X' c L1 μ' → X c W') : wS P E ⟨d, .call ⟨.value fv, ax, ats⟩, ty, pos, af, g⟩ W X := by
 have j : ax.map (fc E) = args.toArray := by simpa using ha
 refine .inr ⟨f, (args ++ caps.toList).toArray, ur z he (by rw [j]; simp), bp (y (a.held i) (a.zx i) (a.zo i) (a.uh i)) (fun _ W' ⟨v, L1, μ1, h1, n, p, k, s, t⟩ => ⟨v, h1, h W' v μ1 L1 ((a.perm i).zN n k s) p (fun b x u => k b (bK x a.size) (fun ⟨o, A⟩ => by
  rcases ((a.perm i).box b o (bc _ A)).2.2 with q | q
  ·omega
  ·exact u q)) t⟩)⟩
end
section
variable {P : Program} {W : World} {E : Nat → Value} {d : Option Nat} {ty : TypeId} {pos : String} {af : Array Edge} {g : Option (Nat × Bool)}
def lW (t : TypeId) (b : Nat) (x : Int) : Value := .iface t (.agg #[.pointer (some ⟨b, 0, none⟩), .int .i64 x])
theorem AQ {t : TypeId} {x : Operand} {v : Value} {u : TypeDesc} (a : P.underlying t = some u) (hu : ∀ q, u ≠ .interface q) (c : fc E x = v) : fQ P E ⟨d, .makeInterface t x, ty, pos, af, g⟩ W (.iface t v) W := by
 show (do let r ← Instr.makeInterface t (fc E x); pure (.value r) : Sem Next).run P W = _
 rw [c]
 unfold Instr.makeInterface
 simp only [bh, aC a, aN]
 cases u <;> simp_all
theorem An {X : List PanicEntry → World → Prop} {x : Operand} {t : TypeId} {v : Value} (a : fc E x = .iface t v) (h : X [{ v := .iface t v, recovered := false }] W) : wS P E ⟨d, .panic x, ty, pos, af, g⟩ W X := by
 refine .inl ⟨.iface t v, W, ?_, h⟩
 show (do let r ← Instr.panic (fc E x); pure (.value r) : Sem Next).run P W = _
 rw [a]
 simp [Instr.panic]
end
theorem gi.li {R : Type} {dd : Bool} {w : World} {μ0 : fz} {L0 : List (Nat × Obj)} {x : Int} {K : R → Value → List (Nat × Obj) → fz → Prop} {X : Int → List PanicEntry → List (Nat × Obj) → fz → Prop} {e : Ending} {a : World} (h : ∃ c L1 μ1, e = .panicked c ∧ jg dd L0 L1 w a ∧ fA μ0 μ1 ∧ Lo (keys L0) w μ0 μ1 ∧ fA μ1 (jy a L1) ∧ X x c L1 μ1) : gi dd w μ0 L0 (.inl x : Int ⊕ R) K X e a := h
theorem gi.ri {R : Type} {dd : Bool} {w : World} {μ0 : fz} {L0 : List (Nat × Obj)} {r : R} {K : R → Value → List (Nat × Obj) → fz → Prop} {X : Int → List PanicEntry → List (Nat × Obj) → fz → Prop} {e : Ending} {a : World} (h : ∃ v L1 μ1, e = .returned v ∧ jg dd L0 L1 w a ∧ fA μ0 μ1 ∧ Lo (keys L0) w μ0 μ1 ∧ fA μ1 (jy a L1) ∧ K r v L1 μ1) : gi dd w μ0 L0 (.inr r : Int ⊕ R) K X e a := h
theorem um {P : Program} {fn : Func} {R : Ending → World → Prop} {E : Nat → Value} {W : World} (h : mu P fn R .normal E W) : xX P fn R .normal E W := h
theorem rR.gW {dd : Bool} {P : Program} {f : FuncId} {args : List Value} {w : World} {μ0 : fz} {L0 : List (Nat × Obj)} {X : List PanicEntry → List (Nat × Obj) → fz → Prop} (h : rR true P f args w μ0 L0 X) : rR dd P f args w μ0 L0 X :=
 bp h fun _ _ ⟨v, L1, μ1, h1, a, c⟩ => ⟨v, L1, μ1, h1, a.gW, c⟩
def pP (D : List Deferred) (n : Nat) (a : Act) (E : Nat → Value) : Prop := a.tmps.size = n ∧ a.defers = D ∧ ∀ t, a.tmps.getD t undef = E t
section
variable {D : List Deferred} {n : Nat} {a : Act} {E : Nat → Value}
theorem pP.eval (h : pP D n a E) : a.eval = fc E := by
 funext x
 cases x with
 | tmp t => exact h.2.2 t
 | const v => rfl
 | global g => rfl
 | func f => rfl
theorem pP.put (h : pP D n a E) {d : Nat} (i : d < n) (v : Value) : pP D n (a.put (some d) v) (gx E d v) := by
 refine ⟨by simp [Act.put, h.1], h.2.1, fun t => ?_⟩
 have g := h.2.2 t
 simp only [Act.put, gx]
 by_cases c : t = d
 ·subst c
  simp [h.1, i]
 ·have : ¬ d = t := fun e => c e.symm
  rw [aA c, ← g]
  simp [bq, this]
theorem pP.lB (h : pP D n a E) (v : Value) : pP D n (a.put none v) E := h
theorem pP.yield (h : pP D n a E) {ops : Array Oper} {j t : Nat} {b : Bool} (d : (ops[j]?).bind (·.dst) = some t) (i : t < n) (k : E t = .bool b) : yielded ops a.tmps j = some b := by
 have c := h.2.2 t
 have g : a.tmps[t]? = some (E t) := by
  rw [← c]
  simp [bq, h.1, i]
 simp [yielded, d, g, k]
end
def xW (D : List Deferred) (n : Nat) (Q : gP) : Exit → Act → World → Prop
 | .panic c, a, w => a.defers = D ∧ a.tmps.size = n ∧ Q (.panic c) (fun t => a.tmps.getD t undef) w
 | .outgrown, _, _ => False
 | e, a, w => ∃ E, pP D n a E ∧ Q e E w
def rc (D : List Deferred) (P : Program) (n : Nat) (c : Code) (Q : gP) (E : Nat → Value) (W : World) : Prop := ∀ a, pP D n a E → c.wp P (xW D n Q) a W
def py (D : List Deferred) (P : Program) (n : Nat) (ops : Array Oper) (Q : gP) (l : List Oper) (E : Nat → Value) (W : World) : Prop := ∀ a, pP D n a E → wpList P ops (xW D n Q) l a W
section
variable {D : List Deferred} {P : Program} {n : Nat} {Q : gP} {E : Nat → Value} {W : World} {c x y : Code} {ops : Array Oper} {rest : List Oper} {o : Oper}
theorem pk (h : rc D P n x (iE (fun E W => rc D P n y Q E W) Q) E W) : rc D P n (.seq x y) Q E W := fun a ha =>
 wp_seq (dy (h a ha) (fun e d i h => by
  cases e with
  | normal => obtain ⟨E', c, g⟩ := h; exact g d c
  | _ => exact h))
theorem za (h : Q .normal E W) : rc D P n .skip Q E W := fun _ ha => wp_skip ⟨E, ha, h⟩
theorem wZ (h : Q .ret E W) : rc D P n .ret Q E W := fun _ ha => wp_ret ⟨E, ha, h⟩
theorem yP {co : Operand} {b : Bool} (c : fc E co = .bool b) (g : b = true → rc D P n x Q E W) (d : b = false → rc D P n y Q E W) : rc D P n (.cond co x y) Q E W := fun a ha => by
 refine wp_cond_split (t := b) (by rw [ha.eval]; exact c) (fun h => g h a ha) (fun h => d h a ha)
theorem wz {co : Operand} (a : fc E co = .bool true) (h : rc D P n x Q E W) : rc D P n (.cond co x y) Q E W := yP a (fun _ => h) (fun h => by cases h)
theorem om {id : Nat} {l : List Oper} (h : py D P n l.toArray Q l E W) : rc D P n (.region id l.toArray false) Q E W := fun a ha => wp_region_lit (h a ha)
theorem qi (h : Q .normal E W) : py D P n ops Q [] E W := fun _ ha => wpList_nil ⟨E, ha, h⟩
theorem gT.vm {a : Act} (h : gT n ops E o) (ha : pP D n a E) : Region.wanted o (yielded ops a.tmps) = true := by
 rcases h with h | ⟨j, want, t, d, g, i, c⟩
 ·simp [Region.wanted, h]
 ·simp [Region.wanted, d, ha.yield g i c]
theorem wT {d : Nat} {v : Value} {W' : World} (hw : gT n ops E o) (c : o.dst = some d) (g : d < n) (i : (execOp (fc E) o).run P W = .ok (.value v) W') (h : py D P n ops Q rest (gx E d v) W') : py D P n ops Q (o :: rest) E W := fun a ha => by
 unfold wpList
 rw [aB (hw.vm ha)]
 refine .inl ?_
 unfold Oper.wp
 rw [ha.eval, i, cg, c]
 exact h _ (ha.put g v)
theorem yH {W' : World} (hw : gT n ops E o) (c : o.dst = none) (d : (execOp (fc E) o).run P W = .ok .skip W') (h : py D P n ops Q rest E W') : py D P n ops Q (o :: rest) E W := fun a ha => by
 unfold wpList
 rw [aB (hw.vm ha)]
 refine .inl ?_
 unfold Oper.wp
 rw [ha.eval, d, cQ, c]
 exact h _ (ha.lB _)
theorem yI {f : FuncId} {args : Array Value} {d : Nat} (hw : gT n ops E o) (g : o.dst = some d) (j : d < n) (k : (execOp (fc E) o).run P W = .ok (.enter f args) W) (h : Calls P f args W fun e c => ∃ v, e = .returned v ∧ py D P n ops Q rest (gx E d v) c) : py D P n ops Q (o :: rest) E W := fun a ha => by
 unfold wpList
 rw [aB (hw.vm ha)]
 refine .inl ?_
 unfold Oper.wp
 rw [ha.eval, k, cj]
 refine h.mono ?_
 rintro e c ⟨v, rfl, i⟩
 simp only [g]
 exact i _ (ha.put j v)
theorem B6 {o : Oper} {dd : Nat} (hw : gT n ops E o) (d : o.dst = some dd) (g : dd < n) (h : ic P E o W fun v W' => py D P n ops Q rest (gx E dd v) W') : py D P n ops Q (o :: rest) E W := by
 rcases h with ⟨v, W', h1, c⟩ | ⟨W', h1, c⟩ | ⟨f, args, h1, c⟩
 ·exact wT hw d g h1 c
 ·intro a ha
  unfold wpList
  rw [aB (hw.vm ha)]
  refine .inl ?_
  unfold Oper.wp
  rw [ha.eval, h1, cQ, d]
  exact c _ (ha.put g _)
 ·exact yI hw d g h1 c
theorem yG {o : Oper} (hw : gT n ops E o) (d : o.dst = none) (h : ic P E o W fun _ W' => py D P n ops Q rest E W') : py D P n ops Q (o :: rest) E W := by
 rcases h with ⟨v, W', h1, c⟩ | ⟨W', h1, c⟩ | ⟨f, args, h1, c⟩
 ·intro a ha
  unfold wpList
  rw [aB (hw.vm ha)]
  refine .inl ?_
  unfold Oper.wp
  rw [ha.eval, h1, cg, d]
  exact c _ (ha.lB _)
 ·exact yH hw d h1 c
 ·intro a ha
  unfold wpList
  rw [aB (hw.vm ha)]
  refine .inl ?_
  unfold Oper.wp
  rw [ha.eval, h1, cj]
  refine bp c ?_
  rintro e i ⟨v, rfl, g⟩
  simp only [d]
  exact g _ (ha.lB _)
theorem oG {dd : Nat} {v : Value} (hw : gT n ops E o) (a : o.dst = some dd) (c : dd < n) (d : fQ P E o W v W) (h : py D P n ops Q rest (gx E dd v) W) : py D P n ops Q (o :: rest) E W := wT hw a c d h
theorem BT (hw : gT n ops E o) (h : wS P E o W fun c w => ∀ E', (∀ t, E' t = E t) → Q (.panic c) E' w) : py D P n ops Q (o :: rest) E W := fun a ha => by
 unfold wpList
 rw [aB (hw.vm ha)]
 refine .inl ?_
 unfold Oper.wp
 rw [ha.eval]
 rcases h with ⟨v, W', h1, d⟩ | ⟨f, args, h1, d⟩
 ·rw [h1]; exact ⟨ha.2.1, ha.1, d _ ha.2.2⟩
 ·rw [h1, cj]
  refine bp d ?_
  rintro e i ⟨c, rfl, g⟩
  exact ⟨ha.2.1, ha.1, g _ ha.2.2⟩
end
section
variable {P : Program} {n : Nat} {E : Nat → Value} {W : World} {c y : Code} {a : Act} {cs : List Frame} {Q : Exit → Act → List Frame → World → Prop}
theorem BE (h : CW P n c (fun e E W => e = .normal ∧ ∀ a, Ag n a E → y.wpS P Q a cs W) E W) (ha : Ag n a E) : (Code.seq c y).wpS P Q a cs W :=
 wpS_seq (wpS_of_wp (dy (h a ha) (fun e g j h => by
  cases e with
  | normal => obtain ⟨E', d, _, i⟩ := h; exact i g d
  | panic c => exact absurd h.2.1 (by simp)
  | outgrown => exact h.elim
  | _ => obtain ⟨E', d, h1, _⟩ := h; cases h1)))
theorem xe {fn : Func} {g : Frame} {j : List Frame} {R : Ending → FrameMode → World → Prop} {u : FrameMode} (k : fn.results = #[]) (h : CW P n c (fun e E W => (e = .normal ∨ e = .ret) ∧ R (.returned (.tuple #[])) u W) E W) (ha : Ag n a E) : c.wpS P (bodyPostS P fn g j R) a ({ g with mode := u } :: j) W :=
 wpS_of_wp (dy (h a ha) (fun e o p h => by
  cases e with
  | normal => obtain ⟨E', d, _, i⟩ := h; exact ⟨d.2.1, u, rfl, .tuple #[], results_none k _ _ _, i⟩
  | ret => obtain ⟨E', d, _, i⟩ := h; exact ⟨d.2.1, u, rfl, .tuple #[], results_none k _ _ _, i⟩
  | panic c => rcases h.2.1 with h | h <;> cases h
  | outgrown => exact h.elim
  | _ => obtain ⟨E', d, h1, _⟩ := h; rcases h1 with h | h <;> cases h))
theorem sq {id d d2 : Nat} {c g : Oper} {cs' : List Frame} {v : Value} (p : d < n) (o : d2 < n) (h1 : c.guard = none) (q : g.guard = none) (j : c.dst = some d) (k : g.dst = some d2) (t : ∀ a : Act, (execOp a.eval c).run P W = .ok .recover W) (hm : ∀ E : Nat → Value, E d = v → fQ P E g W v W) (i : recoverD cs = some (v, cs') ∨ recoverD cs = none ∧ v = .nilIface ∧ cs' = cs) (ha : Ag n a E) (h : ∀ a, Ag n a (gx (gx E d v) d2 v) → Q .normal a cs' W) : (Code.region id #[c, g] false).wpS P Q a cs W := by
 refine wpS_region ?_
 have s : List.range (#[c, g] : Array Oper).size = [0, 1] := rfl
 rw [s]
 have key : ∀ a : Act, Ag n a (gx E d v) → wpOpsS P #[c, g] Q [1] a cs' W := fun a ha => by
  unfold wpOpsS
  simp only [show (#[c, g] : Array Oper)[1]? = some g from rfl]
  rw [aB (by simp [Region.wanted, q])]
  have := hm (gx E d v) (by simp [gx])
  unfold fQ at this
  rw [ha.eval, this]
  simp only [cg, k]
  unfold wpOpsS
  exact h _ (ha.put o v)
 unfold wpOpsS
 simp only [show (#[c, g] : Array Oper)[0]? = some c from rfl]
 rw [aB (by simp [Region.wanted, h1]), t]
 simp only
 rcases i with i | ⟨i, rfl, rfl⟩
 ·rw [i]
  simp only [j]
  exact key _ (ha.put p v)
 ·rw [i]
  simp only [j]
  exact key _ (ha.put p _)
theorem wv {args : List Value} {fn : Func} {n : Nat} (c : fn.ntmps = n) (h : args.length ≤ n) : Ag n { tmps := args.toArray ++ Array.replicate (fn.ntmps - args.toArray.size) undef, defers := [] } (mx args) := by
 refine ⟨by simp; omega, rfl, fun t => ?_⟩
 simp only [mx, bq, dj, da, dw, bQ, db]
 by_cases a : t < args.length
 ·rw [aB a]
 ·rw [aA a, cr (by omega)]
  split <;> simp
end
section
variable {P : Program} {E : Nat → Value} {W : World} {d : Option Nat} {x y : Operand} {tx tv ty : TypeId} {pos : String} {af : Array Edge} {g : Option (Nat × Bool)} {ms : List (String × TypeId)}
theorem tS {t tx : TypeId} {q} {v : Value} (dd : Nat) (a : P.underlying tx = some (.interface q)) (W : World) : (Op.equalIn (dd + 1) tx (.iface t v) .nilIface).run P W = .ok false W := by
 simp [Op.equalIn, aC a]
theorem tF {tx : TypeId} {q} (dd : Nat) (a : P.underlying tx = some (.interface q)) (W : World) : (Op.equalIn (dd + 1) tx .nilIface .nilIface).run P W = .ok true W := by
 simp [Op.equalIn, aC a]
theorem sS {tx e : TypeId} {k : Nat} {p : Addr} (dd : Nat) (c : P.underlying tx = some (.pointer e)) (a : ∀ w, (sizeOf e).run P w = .ok (k + 1) w) (W : World) : (Op.equalIn (dd + 1) tx (.pointer (some p)) (.pointer (some p))).run P W = .ok true W := by
 simp [Op.equalIn, aC c, a W, run_sameAddr_same]
theorem AY {q} {t : TypeId} {v : Value} (c : P.underlying tx = some (.interface q)) (h : fc E x = .iface t v) (i : fc E y = .nilIface) : fQ P E ⟨d, .binOp .eql tx x y tv, ty, pos, af, g⟩ W (.bool false) W := by
 show (do let r ← (do eqGuard .eql tx x y (fc E x) (fc E y); binOp .eql tx (fc E x) (fc E y)); pure (.value r) : Sem Next).run P W = _
 rw [h, i]
 have a := tS (t := t) (v := v) 9999 c W
 simp [eqGuard, binOp, Op.equal, Op.maxDepth, a]
theorem Aw {q} {v : Value} (c : P.underlying tx = some (.interface q)) (h : fc E x = .nilIface) (i : fc E (.const v) = .nilIface) : fQ P E ⟨d, .binOp .eql tx x (.const v) tv, ty, pos, af, g⟩ W (.bool true) W := by
 show (do let r ← (do eqGuard .eql tx x (.const v) (fc E x) (fc E (.const v)); binOp .eql tx (fc E x) (fc E (.const v))); pure (.value r) : Sem Next).run P W = _
 rw [h, i]
 have a := tF 9999 c W
 simp [eqGuard, binOp, Op.equal, Op.maxDepth, a]
theorem wK {e : TypeId} {k : Nat} {p : Addr} (h : P.underlying tx = some (.pointer e)) (c : ∀ w, (sizeOf e).run P w = .ok (k + 1) w) (i : fc E x = .pointer (some p)) (j : fc E y = .pointer (some p)) : fQ P E ⟨d, .binOp .neq tx x y tv, ty, pos, af, g⟩ W (.bool false) W := by
 show (do let r ← (do eqGuard .neq tx x y (fc E x) (fc E y); binOp .neq tx (fc E x) (fc E y)); pure (.value r) : Sem Next).run P W = _
 rw [i, j]
 have a := sS (p := p) 9999 h c W
 simp [eqGuard, binOp, Op.equal, Op.maxDepth, a]
theorem xO {t : TypeId} {v : Value} {u : TypeDesc} (a : P.underlying t = some u) (hu : ∀ q, u ≠ .interface q) (c : fc E x = .iface t v) : fQ P E ⟨d, .typeAssert x tx t true, ty, pos, af, g⟩ W (.tuple #[v, .bool true]) W := by
 show (do let r ← Instr.typeAssert (fc E x) tx t true; pure (.value r) : Sem Next).run P W = _
 rw [c]
 unfold Instr.typeAssert
 simp only [bh, aC a, aN]
 cases u <;> simp_all
end
end Go.Proofs.YtcafmokjkjcomaaGreat
