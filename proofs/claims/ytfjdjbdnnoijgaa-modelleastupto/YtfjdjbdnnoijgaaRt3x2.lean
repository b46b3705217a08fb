/- a part of a proof of ModelLeast -/
import Derived.Test.YtfjdjbdnnoijgaaRt2x2
set_option linter.all false
namespace Go.Proofs.Ytfjdjbdnnoijgaa
open Go.RowKit
variable {dd : Bool}
section
variable {P : Program} {n : Nat} {Q : Post} {E : Nat → Value} {W : World} {ops : Array Oper} {rest : List Oper}
  {d : Option Nat} {ty : TypeId} {pos : String} {af : Array Edge} {g : Option (Nat × Bool)}
  {F : Nat → Prop} {w : World} {μ : Mem} {L : List (Nat × Obj)}
def Runs (P : Program) (E : Nat → Value) (o : Oper) (W : World) (v : Value) (W' : World) : Prop := (execOp (evE E) o).run P W = .ok (.value v) W'
theorem LW_v {o : Oper} {dd : Nat} {v : Value} (hw : Wanted n ops E o) (hd : o.dst = some dd) (hn : dd < n) (hr : Runs P E o W v W) (h : LW P n ops Q rest (upd E dd v) W) : LW P n ops Q (o :: rest) E W := LW_val hw hd hn hr h
theorem R_move {x : Operand} {v : Value} (hx : evE E x = v) : Runs P E ⟨d, .move x, ty, pos, af, g⟩ W v W := by rw [← hx]; rfl
theorem R_assign {x : Operand} {v : Value} (hx : evE E x = v) : Runs P E ⟨d, .assign x, ty, pos, af, g⟩ W v W := by rw [← hx]; rfl
theorem R_pickT {c x y : Operand} {v : Value} (hc : evE E c = .bool true) (hv : evE E x = v) : Runs P E ⟨d, .pick c x y, ty, pos, af, g⟩ W v W := by
  show (do pure (.value (if ← asBool (evE E c) then evE E x else evE E y)) : Sem Next).run P W = _
  rw [hc, ← hv]; simp [asBool]
theorem R_pickF {c x y : Operand} {v : Value} (hc : evE E c = .bool false) (hv : evE E y = v) : Runs P E ⟨d, .pick c x y, ty, pos, af, g⟩ W v W := by
  show (do pure (.value (if ← asBool (evE E c) then evE E x else evE E y)) : Sem Next).run P W = _
  rw [hc, ← hv]; simp [asBool]
theorem R_extract {x : Operand} {i : Nat} {vs : Array Value} {v : Value} (hx : evE E x = .tuple vs) (hv : vs[i]? = some v) : Runs P E ⟨d, .extract x i, ty, pos, af, g⟩ W v W := by
  show (do pure (.value (← Instr.extract (evE E x) i)) : Sem Next).run P W = _
  rw [hx]; simp [Instr.extract, hv]
theorem R_not {u : TypeId} {x : Operand} {b : Bool} (hx : evE E x = .bool b) : Runs P E ⟨d, .unOp .not u x, ty, pos, af, g⟩ W (.bool !b) W := by
  show (do pure (.value (← Op.unary .not (evE E x))) : Sem Next).run P W = _
  rw [hx]; simp [Op.unary]
theorem R_makeFunc {fn : Fn} {first caps : Array Operand} {v : Value} (hv : .func fn (first.map (evE E)) (caps.map (evE E)) = v) : Runs P E ⟨d, .makeFunc fn first caps, ty, pos, af, g⟩ W v W := by
  show (do pure (.value (← Instr.makeFunc fn (first.map (evE E)) (caps.map (evE E)))) : Sem Next).run P W = _
  rw [← hv]; simp [Instr.makeFunc]
def intOp (k : IntKind) (op : BinOp) (a b : Int) : Option Value :=
  match op with
  | .eql => some (.bool (a == b))
  | .neq => some (.bool (a != b))
  | .lss => some (.bool (decide (a < b)))
  | .leq => some (.bool (decide (a ≤ b)))
  | .gtr => some (.bool (decide (a > b)))
  | .geq => some (.bool (decide (a ≥ b)))
  | .add => some (.int k (k.wrap (a + b)))
  | .sub => some (.int k (k.wrap (a - b)))
  | .mul => some (.int k (k.wrap (a * b)))
  | _ => none
theorem R_int {op : BinOp} {tx tv : TypeId} {x y : Operand} {k : IntKind} {a b : Int} {v : Value} (hx : evE E x = .int k a) (hy : evE E y = .int k b) (hv : intOp k op a b = some v) :
    Runs P E ⟨d, .binOp op tx x y tv, ty, pos, af, g⟩ W v W := by
  show (do let r ← (do eqGuard op tx x y (evE E x) (evE E y); binOp op tx (evE E x) (evE E y)); pure (.value r) : Sem Next).run P W = _
  rw [hx, hy]
  cases op <;> simp [intOp] at hv <;> subst hv <;> simp [eqGuard, binOp, Op.intCmp, Op.intArith]
def strOp (op : BinOp) (a b : ByteArray) : Option Value :=
  match op with
  | .eql => some (.bool (a.toList == b.toList))
  | .neq => some (.bool !(a.toList == b.toList))
  | .lss => some (.bool (Op.bytesLess a.toList b.toList))
  | .leq => some (.bool (Op.bytesLess a.toList b.toList || a.toList == b.toList))
  | .gtr => some (.bool !(Op.bytesLess a.toList b.toList || a.toList == b.toList))
  | .geq => some (.bool !(Op.bytesLess a.toList b.toList))
  | _ => none
def catS (a b : ByteArray) : Option ByteArray := if ((a.size + b.size : Nat) : Int) > IntKind.i64.max then none else some (a ++ b)
theorem R_str {op : BinOp} {tx tv : TypeId} {x y : Operand} {a b : ByteArray} {v : Value} (hx : evE E x = .string a) (hy : evE E y = .string b) (hv : strOp op a b = some v) :
    Runs P E ⟨d, .binOp op tx x y tv, ty, pos, af, g⟩ W v W := by
  show (do let r ← (do eqGuard op tx x y (evE E x) (evE E y); binOp op tx (evE E x) (evE E y)); pure (.value r) : Sem Next).run P W = _
  rw [hx, hy]
  cases op <;> simp [strOp] at hv <;> subst hv <;> simp [eqGuard, binOp, Op.stringOp]
theorem R_cat {tx tv : TypeId} {x y : Operand} {a b r : ByteArray} (hx : evE E x = .string a) (hy : evE E y = .string b) (hv : catS a b = some r) :
    Runs P E ⟨d, .binOp .add tx x y tv, ty, pos, af, g⟩ W (.string r) W := by
  show (do let r ← (do eqGuard .add tx x y (evE E x) (evE E y); binOp .add tx (evE E x) (evE E y)); pure (.value r) : Sem Next).run P W = _
  rw [hx, hy]
  simp only [catS] at hv
  split at hv
  · cases hv
  · rename_i hle; cases hv; simp [eqGuard, binOp, Op.stringOp]; simpa using hle
theorem R_eql {tx tv : TypeId} {x y : Operand} {a b : Array Value} {r : Bool} (hx : evE E x = .agg a) (hy : evE E y = .agg b) (hg : ∀ W, (eqGuard .eql tx x y (.agg a) (.agg b)).run P W = .ok () W)
    (hv : ∀ W, (binOp .eql tx (.agg a) (.agg b)).run P W = .ok (.bool r) W) : Runs P E ⟨d, .binOp .eql tx x y tv, ty, pos, af, g⟩ W (.bool r) W := by
  show (do let r ← (do eqGuard .eql tx x y (evE E x) (evE E y); binOp .eql tx (evE E x) (evE E y)); pure (.value r) : Sem Next).run P W = _
  rw [hx, hy]; simp [hg W, hv W]
theorem R_neq {tx tv : TypeId} {x y : Operand} {a b : Array Value} {r : Bool} (hx : evE E x = .agg a) (hy : evE E y = .agg b) (hg : ∀ W, (eqGuard .neq tx x y (.agg a) (.agg b)).run P W = .ok () W)
    (hv : ∀ W, (binOp .neq tx (.agg a) (.agg b)).run P W = .ok (.bool r) W) : Runs P E ⟨d, .binOp .neq tx x y tv, ty, pos, af, g⟩ W (.bool r) W := by
  show (do let r ← (do eqGuard .neq tx x y (evE E x) (evE E y); binOp .neq tx (evE E x) (evE E y)); pure (.value r) : Sem Next).run P W = _
  rw [hx, hy]; simp [hg W, hv W]
theorem equalIn_ptr_nil {t e : TypeId} (dd : Nat) (ht : P.underlying t = some (.pointer e)) (a : Option Addr) (W : World) : (Op.equalIn (dd + 1) t (.pointer a) (.pointer none)).run P W = .ok a.isNone W := by
  cases a <;> simp [Op.equalIn, run_underlying ht]
theorem R_ptrEqNil {tx tv e : TypeId} {x y : Operand} {a : Option Addr} (ht : P.underlying tx = some (.pointer e)) (hx : evE E x = .pointer a) (hy : evE E y = .pointer none) :
    Runs P E ⟨d, .binOp .eql tx x y tv, ty, pos, af, g⟩ W (.bool a.isNone) W := by
  show (do let r ← (do eqGuard .eql tx x y (evE E x) (evE E y); binOp .eql tx (evE E x) (evE E y)); pure (.value r) : Sem Next).run P W = _
  rw [hx, hy]
  have h0 := equalIn_ptr_nil 9999 ht a W
  simp [eqGuard, binOp, Op.equal, show Op.maxDepth = 9999 + 1 from rfl, h0]
theorem R_ptrNeNil {tx tv e : TypeId} {x y : Operand} {a : Option Addr} (ht : P.underlying tx = some (.pointer e)) (hx : evE E x = .pointer a) (hy : evE E y = .pointer none) :
    Runs P E ⟨d, .binOp .neq tx x y tv, ty, pos, af, g⟩ W (.bool !a.isNone) W := by
  show (do let r ← (do eqGuard .neq tx x y (evE E x) (evE E y); binOp .neq tx (evE E x) (evE E y)); pure (.value r) : Sem Next).run P W = _
  rw [hx, hy]
  have h0 := equalIn_ptr_nil 9999 ht a W
  simp [eqGuard, binOp, Op.equal, show Op.maxDepth = 9999 + 1 from rfl, h0]
theorem R_lenStr {x : Operand} {t : TypeId} {s : ByteArray} (ht : P.underlying t = some .string) (hx : evE E x = .string s) : Runs P E ⟨d, .call ⟨.builtin .len, #[x], #[t]⟩, ty, pos, af, g⟩ W (.int .i64 s.size) W := by
  show (do let d ← resolve (evE E) ⟨.builtin .len, #[x], #[t]⟩ ty; invoke d.target d.args : Sem Next).run P W = _
  simp [resolve, invoke, builtin, Builtin.len_, run_underlying ht, hx, goInt]
theorem R_lenSl {x : Operand} {t e : TypeId} {A : Option Addr} {l c : Nat} (ht : P.underlying t = some (.slice e)) (hx : evE E x = .slice A l c) : Runs P E ⟨d, .call ⟨.builtin .len, #[x], #[t]⟩, ty, pos, af, g⟩ W (.int .i64 l) W := by
  show (do let d ← resolve (evE E) ⟨.builtin .len, #[x], #[t]⟩ ty; invoke d.target d.args : Sem Next).run P W = _
  simp [resolve, invoke, builtin, Builtin.len_, run_underlying ht, hx, goInt]
theorem R_len {α : Type} {R : Rep α} {k : Nat} {m : Mem} {x : Operand} {t e : TypeId} {v : Value} {l : List α} (ht : P.underlying t = some (.slice e)) (hx : evE E x = v) (hs : Sl R k m v l) : Runs P E ⟨d, .call ⟨.builtin .len, #[x], #[t]⟩, ty, pos, af, g⟩ W (.int .i64 l.length) W := by
  obtain ⟨A, c, rfl, _⟩ := hs
  exact R_lenSl ht hx
theorem R_indexStr {t : TypeId} {x ix : Operand} {ik : IntKind} {s : ByteArray} {i : Int} {c : UInt8} (ht : P.underlying t = some .string) (hx : evE E x = .string s) (hi : evE E ix = .int ik i) (h0 : 0 ≤ i) (hl : s[i.toNat]? = some c) :
    Runs P E ⟨d, .index t x ix, ty, pos, af, g⟩ W (.int .u8 c.toNat) W := by
  show (do pure (.value (← Instr.index t (evE E x) (evE E ix))) : Sem Next).run P W = _
  rw [hx, hi]
  simp [Instr.index, asIntOf, run_underlying ht, h0, hl]
def FieldAt (P : Program) (t : TypeId) (f off : Nat) : Prop := ∀ b o w, (Instr.fieldAt t (.pointer (some ⟨b, o, none⟩)) f).run P w = .ok (.pointer (some ⟨b, o + off, none⟩)) w
theorem R_field {t : TypeId} {x : Operand} {f off b o : Nat} (hf : FieldAt P t f off) (hx : evE E x = .pointer (some ⟨b, o, none⟩)) : Runs P E ⟨d, .fieldAddr t x f, ty, pos, af, g⟩ W (.pointer (some ⟨b, o + off, none⟩)) W := by
  show (do pure (.value (← Instr.fieldAt t (evE E x) f)) : Sem Next).run P W = _
  rw [hx]; simp [hf b o W]
theorem R_fieldAt {t : TypeId} {x : Operand} {f off : Nat} {v : Value} {ys : List Value} (zs : List Value) (hf : FieldAt P t f off) (hx : evE E x = v) (hv : At μ v ys) (hz : (ys.drop off).take zs.length = zs) :
    ∃ v', At μ v' zs ∧ ∀ W, Runs P E ⟨d, .fieldAddr t x f, ty, pos, af, g⟩ W v' W := by
  obtain ⟨b, o, cs, T, fr, rfl, h1, h2⟩ := hv
  refine ⟨_, ⟨b, o + off, cs, T, fr, rfl, h1, fun j y hy => ?_⟩, fun W => R_field hf hx⟩
  have hj : j < zs.length := (List.getElem?_eq_some_iff.1 hy).1
  have := h2 (off + j) y (by
    rw [← hz, List.getElem?_take_of_lt hj, List.getElem?_drop] at hy
    exact hy)
  rw [Nat.add_assoc]
  exact this
theorem R_nilCheck {x : Operand} {a : Addr} (hx : evE E x = .pointer (some a)) : Runs P E ⟨d, .nilCheck x, ty, pos, af, g⟩ W (.pointer (some a)) W := by
  unfold Runs execOp
  simp [hx]
theorem R_index {α : Type} {R : Rep α} {k : Nat} {t e : TypeId} {x ix : Operand} {ik : IntKind} {v : Value} {i : Int} {l : List α} {x0 : α}
    (ht : P.underlying t = some (.slice e)) (he : ∀ w, (sizeOf e).run P w = .ok k w) (hx : evE E x = v) (hi : evE E ix = .int ik i) (hs : Sl R k μ v l) (h0 : 0 ≤ i) (hl : l[i.toNat]? = some x0) :
    ∃ p ys, ys.length = k ∧ R μ ys x0 ∧ At μ p ys ∧ ∀ W, Runs P E ⟨d, .indexAddr t x ix, ty, pos, af, g⟩ W p W := by
  obtain ⟨A, c, rfl, h2, h3, h4⟩ := hs
  have hlt : i.toNat < l.length := (List.getElem?_eq_some_iff.1 hl).1
  obtain ⟨b, off, cs, T, fr, rfl, h6, h7⟩ := h4 (by omega)
  obtain ⟨ys, h8, h9, h10⟩ := h7 i.toNat x0 hl
  refine ⟨.pointer (some ⟨b, off + i.toNat * k, none⟩), ys, h8, h9, ⟨b, off + i.toNat * k, cs, T, fr, rfl, h6, fun j y hy => h10 j y hy⟩, fun W => ?_⟩
  show (do pure (.value (← Instr.indexAt t (evE E x) (evE E ix))) : Sem Next).run P W = _
  rw [hx, hi]
  have hb : 0 ≤ i ∧ i < (l.length : Int) := ⟨h0, by omega⟩
  simp [Instr.indexAt, asIntOf, run_underlying ht, he W, hb, Addr.add_lit]
theorem R_indexP {α : Type} {enc : α → List Value} {k : Nat} {t e : TypeId} {x ix : Operand} {ik : IntKind} {v : Value} {i : Int} {l : List α} {x0 : α}
    (ht : P.underlying t = some (.slice e)) (he : ∀ w, (sizeOf e).run P w = .ok k w) (hx : evE E x = v) (hi : evE E ix = .int ik i) (hs : Sl (Pl enc) k μ v l) (h0 : 0 ≤ i) (hl : l[i.toNat]? = some x0) :
    ∃ p, At μ p (enc x0) ∧ ∀ W, Runs P E ⟨d, .indexAddr t x ix, ty, pos, af, g⟩ W p W := by
  obtain ⟨p, ys, h1, h2, h3, h4⟩ := R_index (d := d) (ty := ty) (pos := pos) (af := af) (g := g) ht he hx hi hs h0 hl
  cases h2
  exact ⟨p, h3, h4⟩
theorem run_loadBlock (P : Program) {W : World} {b off : Nat} {cs : Array Value} {T : TypeId} {fr : Nat × Nat} (hb : W.heap[b]? = some (.cells cs T fr)) (ys : List Value) (hy : ∀ j y, ys[j]? = some y → cs[off + j]? = some y) :
    (loadCells ⟨b, off, none⟩ ys.length).run P W = .ok ys.toArray W :=
  run_loadCells_list W ⟨b, off, none⟩ ys (fun j v hv => by rw [Addr.add_lit, cell_of_row W b (off + j) cs T fr hb]; exact hy j v hv)
theorem run_loadAgg {W : World} {t : TypeId} {b off : Nat} {cs : Array Value} {T : TypeId} {fr : Nat × Nat} (hA : ∀ w, (isAgg t).run P w = .ok true w) (ys : List Value) (hS : ∀ w, (sizeOf t).run P w = .ok ys.length w)
    (hb : W.heap[b]? = some (.cells cs T fr)) (hy : ∀ j y, ys[j]? = some y → cs[off + j]? = some y) : (Instr.loadAt t (.pointer (some ⟨b, off, none⟩))).run P W = .ok (.agg ys.toArray) W := by
  simp [Instr.loadAt, Instr.sureAddr, loadVar, hA W, hS W, run_loadBlock P hb ys hy]
theorem run_loadOne {W : World} {t : TypeId} {b off : Nat} {cs : Array Value} {T : TypeId} {fr : Nat × Nat} (hA : ∀ w, (isAgg t).run P w = .ok false w) {y : Value}
    (hb : W.heap[b]? = some (.cells cs T fr)) (hy : cs[off]? = some y) : (Instr.loadAt t (.pointer (some ⟨b, off, none⟩))).run P W = .ok y W := by
  have hc : W.cell? ⟨b, off, none⟩ = some y := by rw [cell_of_row W b off cs T fr hb]; exact hy
  simp [Instr.loadAt, Instr.sureAddr, loadVar, hA W, load, Sem.run, hc]
theorem R_load {t : TypeId} {x : Operand} {a v : Value} (hx : evE E x = a) (hr : (Instr.loadAt t a).run P W = .ok v W) : Runs P E ⟨d, .load t x, ty, pos, af, g⟩ W v W := by
  show (do pure (.value (← Instr.loadAt t (evE E x))) : Sem Next).run P W = _
  rw [hx]; simp [hr]
def Has (μ : Mem) (A : List (Nat × Obj)) (W : World) : Prop := (∀ b o, μ b = some o → W.heap[b]? = some o) ∧ ∀ b o, (b, o) ∈ A → W.heap[b]? = some o
theorem ST.has (h : ST dd F w W μ L) : Has μ L W := ⟨h.mem, fun b o hb => (h.box b o hb).1⟩
theorem Has.sub {μ' : Mem} {A A' : List (Nat × Obj)} (h : Has μ A W) (hs : Sub μ' μ) (hA : ∀ p, p ∈ A' → p ∈ A) : Has μ' A' W := ⟨fun b o hb => h.1 b o (hs b o hb), fun b o hb => h.2 b o (hA _ hb)⟩
theorem load_atA {A : List (Nat × Obj)} (hH : Has μ A W) {t : TypeId} {p : Value} {ys : List Value} (hp : At μ p ys) (hA : ∀ w, (isAgg t).run P w = .ok true w) (hS : ∀ w, (sizeOf t).run P w = .ok ys.length w) :
    (Instr.loadAt t p).run P W = .ok (.agg ys.toArray) W := by
  obtain ⟨b, off, cs, T, fr, rfl, h1, h2⟩ := hp
  exact run_loadAgg hA ys hS (hH.1 _ _ h1) h2
theorem load_at1 {A : List (Nat × Obj)} (hH : Has μ A W) {t : TypeId} {p : Value} {y : Value} (hp : At μ p [y]) (hA : ∀ w, (isAgg t).run P w = .ok false w) :
    (Instr.loadAt t p).run P W = .ok y W := by
  obtain ⟨b, off, cs, T, fr, rfl, h1, h2⟩ := hp
  exact run_loadOne hA (hH.1 _ _ h1) (h2 0 y rfl)
theorem load_boxA {A : List (Nat × Obj)} (hH : Has μ A W) {t : TypeId} {b off : Nat} {cs : Array Value} {T : TypeId} {fr : Nat × Nat} (hL : (b, Obj.cells cs T fr) ∈ A) (ys : List Value) (hy : (cs.toList.drop off).take ys.length = ys)
    (hA : ∀ w, (isAgg t).run P w = .ok true w) (hS : ∀ w, (sizeOf t).run P w = .ok ys.length w) : (Instr.loadAt t (.pointer (some ⟨b, off, none⟩))).run P W = .ok (.agg ys.toArray) W :=
  run_loadAgg hA ys hS (hH.2 _ _ hL) (fun j y hj => by
    have hlt : j < ys.length := (List.getElem?_eq_some_iff.1 hj).1
    rw [← hy, List.getElem?_take_of_lt hlt, List.getElem?_drop] at hj
    simpa using hj)
theorem load_box1 {A : List (Nat × Obj)} (hH : Has μ A W) {t : TypeId} {b off : Nat} {cs : Array Value} {T : TypeId} {fr : Nat × Nat} (hL : (b, Obj.cells cs T fr) ∈ A) {y : Value} (hy : cs[off]? = some y)
    (hA : ∀ w, (isAgg t).run P w = .ok false w) : (Instr.loadAt t (.pointer (some ⟨b, off, none⟩))).run P W = .ok y W :=
  run_loadOne hA (hH.2 _ _ hL) hy
theorem R_build {t : TypeId} {ps : Array (Nat × Operand)} {qs : Array (Nat × Value)} {v : Value} (hq : ps.map (fun (i, x) => (i, evE E x)) = qs)
    (hr : ∀ W, (Instr.build t qs).run P W = .ok v W) : Runs P E ⟨d, .build t ps, ty, pos, af, g⟩ W v W := by
  show (do pure (.value (← Instr.build t (ps.map fun (i, x) => (i, evE E x)))) : Sem Next).run P W = _
  rw [hq]; simp [hr W]
theorem run_build {t : TypeId} {z cs : Array Value} {fs : Array Field} {qs : Array (Nat × Value)} {pl : Array (Nat × Nat)} (hz : ∀ w, (zeroValue t).run P w = .ok (.agg z) w) (ht : P.underlying t = some (.struct fs))
    (hp : ∀ w, (fs.mapM fun f => do pure (f.offset, ← sizeOf f.type) : Sem (Array (Nat × Nat))).run P w = .ok pl w)
    (hf : Instr.fill (pl[·]?) z qs.toList = some cs) (W : World) : (Instr.build t qs).run P W = .ok (.agg cs) W := by
  simp only [Instr.build, Sem.run_bind, hz W, Result.andThen_ok, run_underlying ht, Value.cells]
  rw [hp W]
  simp only [Result.andThen_ok, hf, Sem.run_pure]
end
theorem ask_drawn {α : Type} : ∀ (a : Ask α) (w : World), w.drawn ≤ (w.ask a).2.drawn
  | .done a, w => by simp [World.ask]
  | .ask what range k, w => by
    unfold World.ask
    dsimp only
    split
    · exact ask_drawn (k 0) w
    · refine Nat.le_trans (Nat.le_succ w.drawn) ?_
      exact ask_drawn _ { w with drawn := w.drawn + 1 }
theorem sys_drawn (w : World) (c : Sys) : w.drawn ≤ (w.sys c).2.drawn := by
  have h := ask_drawn (Kernel.perform c w.os) w
  unfold World.sys
  generalize w.ask (Kernel.perform c w.os) = r at *
  obtain ⟨⟨r1, r2⟩, w2⟩ := r
  cases r1 <;> simp at h ⊢ <;> exact h
theorem viewStore_drawn {p : Program} {w w' : World} {a : Addr} {u : TypeId} {k : Addr} {v : Value} {b : Bool} {l : List Addr} (h : w.viewStore p a u k v b = .ok (w', l)) : w'.drawn = w.drawn := by
  unfold World.viewStore at h
  simp only [bind, Except.bind, pure, Except.pure] at h
  split at h
  · cases h
  · split at h
    · cases h
    · split at h
      · split at h
        · cases h
        · split at h
          · cases h
          · cases h; rfl
      · cases h
theorem farStore_drawn {p : Program} {w w' : World} {a : Addr} {v : Value} {b : Bool} {l : List Addr} (h : w.farStore p a v b = .ok (w', l)) : w'.drawn = w.drawn := by
  unfold World.farStore at h
  split at h
  · split at h
    · rename_i h1; cases h; exact viewStore_drawn h1
    · cases h
  · cases h
theorem run_drawn {α : Type} {p : Program} : ∀ (s : Sem α) (w w' : World) (a : α), s.run p w = .ok a w' → w.drawn ≤ w'.drawn
  | .pure a, w, w', b, h => by simp only [Sem.run] at h; cases h; exact Nat.le_refl _
  | .load m a k, w, w', b, h => by
    simp only [Sem.run] at h
    split at h
    · exact run_drawn _ _ _ _ h
    · split at h
      · exact run_drawn _ _ _ _ h
      · cases h
  | .store m a v k, w, w', b, h => by
    have key : ∀ (r : Result α) hh, r = .ok b w' → (r = (match w.cell? a with
        | some _ => if w.frozen? a then .halt hh w else k.run p (w.setCell a v)
        | none => match w.farStore p a v (m == .atomic) with
          | .ok (w, _) => k.run p w
          | .error h => .halt h w)) → w.drawn ≤ w'.drawn := by
      intro r hh hr h
      rw [hr] at h
      split at h
      · split at h
        · cases h
        · have := run_drawn k _ _ _ h.symm
          simpa [World.setCell] using this
      · split at h
        · rename_i h1
          have h2 := run_drawn k _ _ _ h.symm
          rw [farStore_drawn h1] at h2
          exact h2
        · cases h
    cases v with
    | agg cs => simp only [Sem.run] at h; cases h
    | tuple cs => simp only [Sem.run] at h; cases h
    | _ => exact key _ _ h (by simp only [Sem.run]; rfl)
  | .new o k, w, w', b, h => by simp only [Sem.run] at h; have := run_drawn (k _) _ _ _ h; exact this
  | .shape r k, w, w', b, h => by simp only [Sem.run] at h; exact run_drawn _ _ _ _ h
  | .freeze a n k, w, w', b, h => by
    simp only [Sem.run] at h
    have := run_drawn k _ _ _ h
    unfold World.freeze at this
    split at this <;> exact this
  | .frozen a k, w, w', b, h => by simp only [Sem.run] at h; exact run_drawn _ _ _ _ h
  | .getObj r k, w, w', b, h => by
    simp only [Sem.run] at h
    split at h <;> try (cases h; done)
    exact run_drawn _ _ _ _ h
  | .setObj r o k, w, w', b, h => by
    simp only [Sem.run] at h
    split at h <;> try (cases h; done)
    have := run_drawn k _ _ _ h
    exact this
  | .choose q k, w, w', b, h => by
    simp only [Sem.run] at h
    split at h
    · exact run_drawn _ _ _ _ h
    · exact Nat.le_trans (Nat.le_succ _) (run_drawn _ _ _ _ h)
  | .sys c k, w, w', b, h => by
    simp only [Sem.run] at h
    exact Nat.le_trans (sys_drawn w c) (run_drawn _ _ _ _ h)
  | .program k, w, w', b, h => by simp only [Sem.run] at h; exact run_drawn _ _ _ _ h
  | .mark m k, w, w', b, h => by simp only [Sem.run] at h; exact run_drawn k _ _ _ h
  | .halt x, w, w', b, h => by simp only [Sem.run] at h; cases h
end Go.Proofs.Ytfjdjbdnnoijgaa
