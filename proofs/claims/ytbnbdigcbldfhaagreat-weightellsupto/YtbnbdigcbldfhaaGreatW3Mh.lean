/- a part of a proof of WeighTells -/
import Derived.Test.YtbnbdigcbldfhaaGreatRtYh
import Derived.Recover
import Derived.LaidEqlPtr
import Derived.RangeFuncRecord
import Derived.Shelf.SlSortCmp.NoneTotal
import Derived.Shelf.SortM.Plain
import Derived.Shelf.SortM.SortNone
import Derived.Shelf.SlIter.Sorted
import Derived.Shelf.SlIter.Nil
import Derived.Test.YtbnbdigcbldfhaaGreatProg
import Derived.KernelRfl
set_option linter.all false
namespace Go.Proofs.YtbnbdigcbldfhaaGreat
open Go.IntKind renaming wrap → wi0
open Go.RowKit
variable [M : Md]
theorem oc {v : Value} (h : v.cells.toList.all Value.oneCell' = true := by exact rfl) : ∀ u ∈ v.cells.toList, u.oneCell' = true := fP.1 h
theorem dc {p : Prop} [Decidable p] (h : p := by decide) : p := h
theorem kr {p : Prop} (h : p := by kernel_rfl) : p := h
theorem br {α : Sort _} {a b : α} (h : a = b := by rfl) : a = b := h
abbrev LO := List (Nat × Obj)
abbrev Ob (c : Array Value) (t : TypeId) : Obj := .cells c t (0, 0)
abbrev Ol (c : List Value) (t : TypeId) : Obj := .cells c.toArray t (0, 0)
theorem jB {P : Program} {t e : TypeId} {m k : Nat} {z : Value} {qs : Array (Nat × Value)} {cs : Array Value} (g : P.underlying t = some (.slice e)) (d : ∀ w, (sizeOf e).run P w = .ok k w) (j : ∀ w, (zeroValue e).run P w = .ok z w) (hm : m * k ≤ 16777216 := by decide) (c : qs.toList = (qs.toList.map (·.2)).zipIdx.map (fun p => (p.2, p.1)) := by exact rfl) (i : (qs.toList.map (·.2)).all (fun v => v.cells.size == k) = true := by exact rfl) (b : (qs.toList.map (·.2)).length = m := by exact rfl) (a : ((qs.toList.map (·.2)).flatMap (fun v => v.cells.toList)).toArray = cs := by exact rfl) (W : World) :
  (Instr.buildSlice t m qs).run P W = .ok (.slice (some ⟨W.heap.size, 0, none⟩) m m) (W.alloc (.cells cs e (0, 0))) :=
 vS _ g d j hm c (fun v h => eq_of_beq (fP.1 i v h)) b a W
section
variable {dd : Bool} {P : Program} {fn : Func} {E : Nat → Value} {W w : World} {μ : gT} {L L0 : List (Nat × Obj)}
theorem rQ {α : Type} {f : α → Value} {a r : α} {t : Tmp} (hm : some a = some r) (b : ST dd gN w W μ L) (c : fn.results = #[.tmp t] := by exact rfl) (d : E t = f a := by exact rfl) : pd P fn (fun e W' => e = .returned (f r) ∧ Ex dd w W') .ret E W := by
 obtain rfl := sj hm; exact ij c d ⟨rfl, b.ex⟩
theorem cG (n : Nat) {f : FuncId} {c : Code} {args : List Value} {v : Value} (a : P.funcs[f]? = some fn) (b : fn.body = some c) (h : ST dd gN w w (hp w) [] → @CW rk P n c (pd P fn (fun e i => e = .returned v ∧ Ex dd w i)) (qX args) w) (g : fn.ntmps = n := by exact rfl) (d : args.length ≤ n := by exact nb) : iC dd P f args w v := ri a b g d (h (ST.start w))
theorem oE {K : Value → List (Nat × Obj) → World → Prop} (n : Nat) {f : FuncId} {c : Code} {args : List Value} (a : P.funcs[f]? = some fn) (d : fn.body = some c) (h : ST dd gN w w (hp w) [] → @CW rk P n c (pd P fn (fun e b => ∃ v L1, e = .returned v ∧ nD dd [] L1 w b ∧ K v L1 b)) (qX args) w) (i : fn.ntmps = n := by exact rfl) (g : args.length ≤ n := by exact nb) : ir dd P f args w [] K := ri a d i g (h (ST.start w))
theorem sN {K : Value → List (Nat × Obj) → World → Prop} (d : pN μ L0 w) (n : Nat) {f : FuncId} {c : Code} {args : List Value} (a : P.funcs[f]? = some fn) (g : fn.body = some c) (h : ST dd (keys L0) w w μ L0 → @CW rk P n c (pd P fn (fun e b => ∃ v L1, e = .returned v ∧ nD dd L0 L1 w b ∧ K v L1 b)) (qX args) w) (j : fn.ntmps = n := by exact rfl) (i : args.length ≤ n := by exact nb) : ir dd P f args w L0 K := ri a g j i (h (ST.Co d))
end
section
variable {dd : Bool}
variable {P : Program} {E : Nat → Value} {W : World} {d : Option Nat} {ty : TypeId} {pos : String} {af : Array Edge} {g : Option (Nat × Bool)}
 {F : Nat → Prop} {w : World} {μ : gT} {L : List (Nat × Obj)}
variable {f : FuncId} {fv : Operand} {ax : Array Operand} {ats : Array TypeId} {args : List Value} {v : Value} {K : Value → World → Prop}
theorem eM {K' : Value → List (Nat × Obj) → World → Prop} {L0 L2 : List (Nat × Obj)} (i : ST dd F w W μ L) (j : L.Perm (L0 ++ L2)) (he : ∀ args w, (callFunc f args).run P w = .ok (.enter f args) w) (l : pN (oW W L0) L0 W → ig μ (oW W L0) → ir dd P f args W L0 K') (h : ∀ W' v μ' L1, ST dd F w W' μ' (L1 ++ L2) → ig μ μ' → Lo F w μ μ' → (∀ b, W.heap.size ≤ b → ∀ o, oW W' L1 b = some o → μ' b = some o) → K' v L1 W' → K v W') (m : gv E fv = .func (.func f) #[] #[] := by exact rfl) (k : ax.toList.map (gv E) = args := by exact rfl) : jx P E ⟨d, .call ⟨.value fv, ax, ats⟩, ty, pos, af, g⟩ W K :=
 wo i j he (fun a b c _ => l ⟨a, b, ig.refl _⟩ c) h m k
end
def BT (op : BinOp) : Value → Value → Option Value
 | .int k a, .int k' b => if k = k' then yX k op a b else none
 | _, _ => none
def Ey (i : Nat) : Value → Option Value
 | .tuple vs => vs[i]?
 | _ => none
def y7 : Value → Bool
 | .pointer (some ⟨_, _, none⟩) => true
 | _ => false
def Fb (o : Nat) : Value → Value
 | .pointer (some ⟨b, k, none⟩) => .pointer (some ⟨b, k + o, none⟩)
 | v => v
theorem yD {v : Value} (h : y7 v = true) : ∃ b k, v = .pointer (some ⟨b, k, none⟩) := by
 unfold y7 at h; split at h
 ·exact ⟨_, _, rfl⟩
 ·cases h
section
variable {P : Program} {n : Nat} {Q : km} {E : Nat → Value} {W : World} {ops : Array Oper} {rest : List Oper}
 {d j t : Nat} {want b : Bool} {v : Value} {ins : Go.Op} {ty : TypeId} {pos : String} {af : Array Edge} {A : Value → Prop} {x y : Operand}
theorem Wm (h : LW P n ops Q rest (jC E d (gv E x)) W) (a : d < n := by decide) : LW P n ops Q (⟨some d, .move x, ty, pos, af, none⟩ :: rest) E W := V (gy rfl) h a
theorem Wa (h : LW P n ops Q rest (jC E d (gv E x)) W) (a : d < n := by decide) : LW P n ops Q (⟨some d, .assign x, ty, pos, af, none⟩ :: rest) E W := V (kc rfl) h a
theorem Wh (b : gv E x = v) (h : LW P n ops Q rest (jC E d v) W) (a : d < n := by decide) : LW P n ops Q (⟨some d, .move x, ty, pos, af, none⟩ :: rest) E W := V (gy b) h a
theorem Wg (b : gv E x = v) (h : LW P n ops Q rest (jC E d v) W) (a : d < n := by decide) : LW P n ops Q (⟨some d, .assign x, ty, pos, af, none⟩ :: rest) E W := V (kc b) h a
theorem Wx {i : Nat} (a : Ey i (gv E x) = some v) (h : LW P n ops Q rest (jC E d v) W) (b : d < n := by decide) : LW P n ops Q (⟨some d, .extract x i, ty, pos, af, none⟩ :: rest) E W := by
 unfold Ey at a; split at a
 ·rename_i vs e; exact V (oD e a) h b
 ·cases a
theorem Wi {op : BinOp} {m l : TypeId} (c : BT op (gv E x) (gv E y) = some v) (h : LW P n ops Q rest (jC E d v) W) (j : d < n := by decide) : LW P n ops Q (⟨some d, .binOp op m x y l, ty, pos, af, none⟩ :: rest) E W := by
 unfold BT at c; split at c
 ·rename_i k a k' b g i
  split at c
  ·rename_i e; subst e; exact V (iX g i c) h j
  ·cases c
 ·cases c
theorem Wf {t : TypeId} {f off : Nat} (a : jD P t f off) (h : LW P n ops Q rest (jC E d (Fb off (gv E x))) W) (hp : y7 (gv E x) = true := by exact rfl) (c : d < n := by decide) : LW P n ops Q (⟨some d, .fieldAddr t x f, ty, pos, af, none⟩ :: rest) E W := by
 obtain ⟨b, k, e⟩ := yD hp
 refine V (gA a e) ?_ c
 rw [e] at h; exact h
theorem Wn (h : LW P n ops Q rest (jC E d (gv E x)) W) (hp : y7 (gv E x) = true := by exact rfl) (a : d < n := by decide) : LW P n ops Q (⟨some d, .nilCheck x, ty, pos, af, none⟩ :: rest) E W := by
 obtain ⟨b, k, e⟩ := yD hp
 refine V (jo e) ?_ a
 rw [e] at h; exact h
theorem un (h : b = !want) (k : LW P n ops Q rest (jC E d undef) W) (c : (ops[j]?).bind (·.dst) = some t := by exact rfl) (a : E t = .bool b := by exact rfl) (i : t < n := by decide) (g : d < n := by decide) :
  LW P n ops Q (⟨some d, ins, ty, pos, af, some (j, want)⟩ :: rest) E W := Vn c (by rw [a, h]) k i g
theorem ug (h : b = want) (i : iB P E ⟨some d, ins, ty, pos, af, some (j, want)⟩ W v W) (k : LW P n ops Q rest (jC E d v) W) (c : (ops[j]?).bind (·.dst) = some t := by exact rfl) (a : E t = .bool b := by exact rfl) (l : t < n := by decide) (g : d < n := by decide) :
  LW P n ops Q (⟨some d, ins, ty, pos, af, some (j, want)⟩ :: rest) E W := Vg c (by rw [a, h]) i k l g
theorem oM (h : b = want) (k : jx P E ⟨some d, ins, ty, pos, af, some (j, want)⟩ W fun v W' => LW P n ops Q rest (jC E d v) W') (c : (ops[j]?).bind (·.dst) = some t := by exact rfl) (a : E t = .bool b := by exact rfl) (i : t < n := by decide) (g : d < n := by decide) :
  LW P n ops Q (⟨some d, ins, ty, pos, af, some (j, want)⟩ :: rest) E W := E4 c (by rw [a, h]) k i g
theorem FE (h : b = want) (i : ∃ p, A p ∧ ∀ W, iB P E ⟨some d, ins, ty, pos, af, some (j, want)⟩ W p W) (k : ∀ p, A p → LW P n ops Q rest (jC E d p) W) (c : (ops[j]?).bind (·.dst) = some t := by exact rfl) (a : E t = .bool b := by exact rfl) (l : t < n := by decide) (g : d < n := by decide) :
  LW P n ops Q (⟨some d, ins, ty, pos, af, some (j, want)⟩ :: rest) E W := F8 c (by rw [a, h]) i k l g
section
variable {dd : Bool} {F : Nat → Prop} {w : World} {μ : gT} {L : List (Nat × Obj)} {T : TypeId} {a off : Nat} {cs : Array Value} {fr : Nat × Nat}
theorem VA {t : TypeId} (c : ST dd F w W μ L) (i : (a, Obj.cells cs T fr) ∈ L) (b : List Value) (g : ∀ w, (isAgg t).run P w = .ok true w) (j : ∀ w, (sizeOf t).run P w = .ok b.length w) (h : LW P n ops Q rest (jC E d (.agg b.toArray)) W) (l : gv E x = .pointer (some ⟨a, off, none⟩) := by exact rfl) (m : (cs.toList.drop off).take b.length = b := by exact rfl) (k : d < n := by decide) : LW P n ops Q (⟨some d, .load t x, ty, pos, af, none⟩ :: rest) E W := V (gu l (gD c.has i b m g j)) h k
theorem VB {t : TypeId} (b : ST dd F w W μ L) (g : (a, Obj.cells cs T fr) ∈ L) (j : gv E x = .pointer (some ⟨a, off, none⟩)) (k : cs[off]? = some v) (c : ∀ w, (isAgg t).run P w = .ok false w) (h : LW P n ops Q rest (jC E d v) W) (i : d < n := by decide) : LW P n ops Q (⟨some d, .load t x, ty, pos, af, none⟩ :: rest) E W := V (gu j (gL b.has g k c)) h i
end
section
variable {K : (Nat → Value) → World → Prop} {Q' : km} {c : Code} {id id2 : Nat} {l : List Oper} {z : Code}
theorem sg (h : LW P n l.toArray (kZ (fun E W => CW P n c Q E W) Q) l E W) : CW P n (.seq (.region id l.toArray false) c) Q E W := gH (gE h)
theorem ln (h : K E W) : LW P n ops (kZ K Q) [] E W := gM (gC h)
theorem lr (h : LW P n l.toArray (kZ (fun E W => CW P n c Q E W) Q) l E W) : LW P n ops (kZ (fun E W => CW P n (.seq (.region id l.toArray false) c) Q E W) Q') [] E W := gM (gC (gH (gE h)))
theorem lS (h : LW P n l.toArray (kZ (fun E W => CW P n c (kZ (fun E W => CW P n z Q E W) Q) E W) (kZ (fun E W => CW P n z Q E W) Q)) l E W) : LW P n ops (kZ (fun E W => CW P n (.seq (.seq (.region id l.toArray false) c) z) Q E W) Q') [] E W := gM (gC (gH (gH (gE h))))
theorem bg (h : LW P n l.toArray (kZ (fun E W => CW P n c (pu id2 Q) E W) (pu id2 Q)) l E W) : CW P n (.block id2 (.seq (.region id l.toArray false) c)) Q E W := ji (gH (gE h))
theorem kg (h : LW P n l.toArray (kZ (fun E W => CW P n c Q E W) Q) l E W) : CW P n .skip (kZ (fun E W => CW P n (.seq (.region id l.toArray false) c) Q E W) Q') E W := ic (gC (gH (gE h)))
theorem kS (h : LW P n l.toArray (kZ (fun E W => CW P n c (kZ (fun E W => CW P n z Q E W) Q) E W) (kZ (fun E W => CW P n z Q E W) Q)) l E W) : CW P n .skip (kZ (fun E W => CW P n (.seq (.seq (.region id l.toArray false) c) z) Q E W) Q') E W := ic (gC (gH (gH (gE h))))
theorem lt (h : Q .ret E W) : LW P n ops (kZ (fun E W => CW P n .ret Q E W) Q') [] E W := gM (gC (iq h))
theorem kn (h : K E W) : CW P n .skip (kZ K Q) E W := ic (gC h)
end
end
theorem lk.ES {α : Type} {dd : Bool} {w W : World} {μ : gT} {L R : List (Nat × Obj)} {e : TypeId} {enc : α → List Value} {k : Nat} {v : Value} {l : List α} (h : lk e enc k v l R) (c : ST dd gN w W μ L) (i : ∀ p, p ∈ R → p ∈ L) : Fr w.heap.size v := by
 rcases h with ⟨rfl, rfl, rfl⟩ | ⟨g, off, cap, a, rfl, rfl, h1, j, m, n⟩
 ·exact Fr.nil _
 ·intro b d
  simp [Value.ownBlock] at d
  subst d
  rcases (c.box g (.cells a e (0, 0)) (i _ (aA.2 rfl))).2.2 with h | h
  ·exact h
  ·exact h.elim
theorem xh.mono {α β : Type} {P : Program} {fv : Value} {μ μ0 : gT} {av : α → List Value} {a : β → Value} {pm : α → Option β} (h : xh P fv μ av a pm) (d : ig μ μ0) : xh P fv μ0 av a pm := by
 obtain ⟨f, caps, h1, b, c⟩ := h
 exact ⟨f, caps, h1, b, fun W x r h => c W x r (d.trans h)⟩
theorem xh.form {α β : Type} {P : Program} {fv : Value} {μ : gT} {av : α → List Value} {c : β → Value} {pm : α → Option β} (h : xh P fv μ av c pm) : ∃ f a b, fv = .func f a b := let ⟨f, b, h, _⟩ := h; ⟨_, _, b, h⟩
noncomputable def vN {κ α : Type} (a : Nat) (f : α × α → Option Int) (l : List (κ × α)) : Option (List α) :=
 if l.length * a ≤ 140737488355328 ∧ l.length ≤ maxLen then rq (l.map (·.2)) (qy f) else none
theorem A8 {κ α : Type} {a : Nat} {f : α × α → Option Int} {l : List (κ × α)} {r : List α} (h : vN a f l = some r) : l.length * a ≤ 140737488355328 ∧ l.length ≤ maxLen ∧ ∀ o, o.Perm (l.map (·.2)) → qy f o = some r := by
 unfold vN at h
 split at h
 ·rename_i b; exact ⟨b.1, b.2, yi h⟩
 ·cases h
end Go.Proofs.YtbnbdigcbldfhaaGreat
namespace Go.Proofs.YtbnbdigcbldfhaaGreat
open Go.IntKind renaming wrap → wi0
open Go.RowKit
section
variable {P : Program} {W : World} {E : Nat → Value} {d : Option Nat} {ty : TypeId} {pos : String} {af : Array Edge} {g : Option (Nat × Bool)}
theorem Ep {t : TypeId} {x : Operand} {v : Value} {u : TypeDesc} (a : P.underlying t = some u) (hu : ∀ q, u ≠ .interface q) (b : gv E x = v) : iB P E ⟨d, .makeInterface t x, ty, pos, af, g⟩ W (.iface t v) W := by
 show (do let r ← Instr.makeInterface t (gv E x); pure (.value r) : Sem Next).run P W = _
 rw [b]
 unfold Instr.makeInterface
 simp only [aQ, aq a, aH]
 cases u <;> simp_all
end
section
variable {P : Program} {n : Nat} {E : Nat → Value} {W : World} {c y : Code} {a : Act} {cs : List Frame} {Q : Exit → Act → List Frame → World → Prop}
theorem Dv {args : List Value} {fn : Func} {n : Nat} (b : fn.ntmps = n) (h : args.length ≤ n) : Ag n { tmps := args.toArray ++ Array.replicate (fn.ntmps - args.toArray.size) undef, defers := [] } (qX args) := by
 refine ⟨by simp; omega, rfl, fun t => ?_⟩
 simp only [qX, cA, List.getD_eq_getElem?_getD, eo, Array.getElem?_replicate, cr, dy]
 by_cases a : t < args.length
 ·rw [ar a]
 ·rw [al a, cE (by omega)]
  split <;> simp
end
theorem py.form {κ γ : Type} {kenc : κ → Value} {Q : Value → γ → List (Nat × Obj) → Prop} {μ : gT} {v : Value} {l : List (κ × γ)} (h : py kenc Q μ v l) : ∃ m, v = .map m := by
 obtain ⟨a, R, h, _⟩ := h
 obtain ⟨m, rfl⟩ := h.form
 exact ⟨_, rfl⟩
theorem Cl {M : Md} {n : Nat} {P : Program} {l : Nat} {f : FuncId} {tmps : Array Value} {ax body : Code} {w : World} {R : Ending → World → Prop} : RoundIn M.F n P l f tmps ax body w R ↔ RoundIn Fence.wide n P l f tmps ax body w R := Iff.rfl
def Dm (P : Program) (E : Nat → Value) (o : Oper) (W : World) (K : Value → World → Prop) : Prop :=
 ∃ l fn tmps ax body, (execOp (gv E) o).run P W = .ok (.round l fn tmps ax body) W ∧ RoundIn Fence.wide 0 P l fn tmps ax body W fun e a => ∃ v, e = .returned v ∧ K v a
section
variable [M : Md] {P : Program} {n : Nat} {Q : km} {E : Nat → Value} {W : World} {ops : Array Oper} {rest : List Oper} {o : Oper}
theorem FN {dd : Nat} (hw : mA n ops E o) (d : o.dst = some dd) (i : dd < n) (h : Dm P E o W fun v W' => LW P n ops Q rest (jC E dd v) W') : LW P n ops Q (o :: rest) E W := fun a b => by
 obtain ⟨l, fn, tmps, ax, body, h1, c⟩ := h
 unfold wpListIn
 rw [ar (hw.of b)]
 unfold Oper.wpIn
 refine ⟨fun _ _ => trivial, ?_⟩
 rw [b.eval, qf h1 (by simp), Oper.uponIn_round]
 refine ⟨fun e => (nomatch (show (none : Option Nat).isSome = true from e)), RoundIn.mono (Cl.2 c) ?_⟩
 rintro e j ⟨v, rfl, g⟩
 simp only [d]
 exact g _ (b.put i v)
theorem VY {d : Nat} {ins : Op} {ty : TypeId} {pos : String} {af : Array Edge} (h : Dm P E ⟨some d, ins, ty, pos, af, none⟩ W fun v W' => LW P n ops Q rest (jC E d v) W') (a : d < n := by decide) : LW P n ops Q (⟨some d, ins, ty, pos, af, none⟩ :: rest) E W := FN (.inl rfl) rfl a h
end
def wO {σ α β : Type} (P : Program) (fv : Value) (μ : gT) (Inv : σ → List (Nat × Obj) → Prop) (av : α → List Value) (a : β → Value) (fs : σ → α → Option (β × σ)) : Prop :=
 ∃ l, fv = .func (.yield l) #[] #[] ∧
  ∀ W s x r R, ig μ (oW W R) → Inv s R → vd R W → (R.map (·.1)).Nodup → fs s x = some r →
   ∃ fn tmps ax body, (Instr.yield l (av x).toArray).run P W = .ok (.round l fn tmps ax body) W ∧
    RoundIn Fence.wide 0 P l fn tmps ax body W fun e b => ∃ v R', e = .returned v ∧ nD false R R' W b ∧ v = a r.1 ∧ Inv r.2 R'
section
variable {P : Program} {F : Nat → Prop} {w W : World} {μ : gT} {L : List (Nat × Obj)} {E : Nat → Value} {d : Option Nat} {ty : TypeId} {pos : String} {af : Array Edge} {g : Option (Nat × Bool)}
theorem wO.mono {σ α β : Type} {fv : Value} {μ0 : gT} {Inv : σ → List (Nat × Obj) → Prop} {av : α → List Value} {a : β → Value} {fs : σ → α → Option (β × σ)} (h : wO P fv μ Inv av a fs) (c : ig μ μ0) : wO P fv μ0 Inv av a fs := by
 obtain ⟨l, h1, b⟩ := h
 exact ⟨l, h1, fun W s x r R h => b W s x r R (c.trans h)⟩
theorem Fe {σ α β : Type} {K : Value → World → Prop} {μ0 : gT} {fv : Value} {Inv : σ → List (Nat × Obj) → Prop} {av : α → List Value} {n : β → Value} {fs : σ → α → Option (β × σ)} {i : Operand} {ax : Array Operand} {ats : Array TypeId} (s : σ) (x : α) {r : β × σ} {R : List (Nat × Obj)} (L2 : List (Nat × Obj)) (a : ST false F w W μ L) (b : L.Perm (R ++ L2)) (A : wO P fv μ0 Inv av n fs) (I : ig μ0 μ) (u : Inv s R) (G : gv E i = fv) (y : ax.map (gv E) ++ (#[] : Array Value) = (av x).toArray) (hm : fs s x = some r) (h : ∀ W' μ' R', ST false F w W' μ' (R' ++ L2) → ig μ μ' → Lo F w μ μ' → Inv r.2 R' → K (n r.1) W') : Dm P E ⟨d, .call ⟨.value i, ax, ats⟩, ty, pos, af, g⟩ W K := by
 obtain ⟨l, rfl, o⟩ := A
 have k : ax.map (gv E) = (av x).toArray := by simpa using y
 obtain ⟨fn, tmps, c, body, p, q⟩ := o W s x r R (I.trans (a.C6 b)) u (a.held b) (a.Dd b) hm
 refine ⟨l, fn, tmps, c, body, ?_, RoundIn.mono q ?_⟩
 ·show (do let d ← resolve (gv E) ⟨.value i, ax, ats⟩ ty; invoke d.target d.args : Sem Next).run P W = _
  rw [← p]
  simp [resolve, G, k, Deferred.ofValue, invoke]
 ·rintro e m ⟨v, R', rfl, t, rfl, j⟩
  exact ⟨_, rfl, h m _ R' ((a.perm b).back t) ((a.perm b).vj m R') ((a.perm b).wF m R') j⟩
end
abbrev yo (l : Nat) : Md := ⟨some l, []⟩
abbrev Cu (D : List Deferred) : Md := ⟨none, D⟩
def Fw (n : Nat) (Q : List Deferred → km) (e : Exit) (a : Act) (w : World) : Prop := ∃ D, @lift (Cu D) n (Q D) e a w
def xo (P : Program) (n : Nat) (c : Code) (Q : List Deferred → km) (E : Nat → Value) (W : World) : Prop := ∀ a, @Ag rk n a E → c.wpIn Fence.wide 0 P (Fw n Q) a W
def EE (E : Nat → Value) (l : List (Nat × Value)) : Nat → Value := l.foldl (fun E p => jC E p.1 p.2) E
def Fa (l : Nat) (K : Value → World → Prop) : km
 | .normal, _, w => ∃ r, w.heap[l]? = some (.loop r) ∧ K (.bool true) (w.putObj l (.loop { r with state := .ready, pending := none }))
 | .ret, _, w => ∃ r, w.heap[l]? = some (.loop r) ∧ K (.bool false) (w.putObj l (.loop { r with state := .done, pending := some .ret }))
 | .exit id, _, w => ∃ r, w.heap[l]? = some (.loop r) ∧ K (.bool false) (w.putObj l (.loop { r with state := .done, pending := some (.exit id) }))
 | _, _, _ => False
def Ew (l : Nat) (Q : km) (E : Nat → Value) (w : World) : Prop :=
 ∃ r, w.heap[l]? = some (.loop r) ∧ r.state ≠ .busy ∧
  ((r.pending = none ∧ Q .normal E (w.putObj l (.loop { r with state := .exhausted }))) ∨ (r.pending = some .ret ∧ Q .ret E (w.putObj l (.loop { r with state := .exhausted }))) ∨
   (∃ id, r.pending = some (.exit id) ∧ Q (.exit id) E (w.putObj l (.loop { r with state := .exhausted }))))
section
variable {P : Program} {n : Nat} {Q : List Deferred → km} {E : Nat → Value} {W : World} {c x y : Code}
theorem AQ (h : @CW rk P n x (kZ (fun E W => xo P n y Q E W) (Q [])) E W) : xo P n (.seq x y) Q E W := fun a d =>
 wpIn_seq (dp (h a d) (fun e c i h => by
  cases e with
  | normal => obtain ⟨E', b, g⟩ := h; exact g c b
  | _ => exact ⟨[], h⟩))
theorem Fj (h : xo P n x (fun D => kZ (fun E W => @CW (Cu D) P n y (Q D) E W) (Q D)) E W) : xo P n (.seq x y) Q E W := fun a d =>
 wpIn_seq (dp (h a d) (fun e c i ⟨D, h⟩ => by
  cases e with
  | normal => obtain ⟨E', b, g⟩ := h; exact dp (g c b) (fun _ _ _ h => ⟨D, h⟩)
  | _ => exact ⟨D, h⟩))
theorem B4 {id : Nat} (h : xo P n c (fun D => pu id (Q D)) E W) : xo P n (.block id c) Q E W := fun a i =>
 wpIn_block (dp (h a i) (fun e k l ⟨D, h⟩ => by
  cases e with
  | exit j =>
   obtain ⟨E', b, d⟩ := h
   simp only [Exit.inBlock]
   simp only [pu] at d
   split at d
   ·rename_i g; rw [ar g]; exact ⟨D, E', b, d⟩
   ·rename_i g; rw [al g]; exact ⟨D, E', b, d⟩
  | _ => exact ⟨D, h⟩))
theorem A0 {M : Md} : ∀ (l : List (Nat × Value)) {a : Act} {E : Nat → Value}, @Ag M n a E → (∀ p ∈ l, p.1 < n) → @Ag M n { a with tmps := l.foldl (fun t p => t.setIfInBounds p.1 p.2) a.tmps } (EE E l)
 | [], _, _, h, _ => h
 | p :: l, a, E, h, hp => by
  have h1 : @Ag M n { a with tmps := a.tmps.setIfInBounds p.1 p.2 } (jC E p.1 p.2) := Ag.put h (hp p (List.mem_cons_self ..)) p.2
  exact A0 l h1 (fun q b => hp q (cL _ b))
theorem yQ {g : Operand} {k : Array Tmp} {assign body : Code} {f : FuncId} {caps : Array Value} (o : gv E g = .func (.func f) #[] caps) (he : ∀ args w, (callFunc f args).run P w = .ok (.enter f args) w) (h : ∀ (fn : FuncId) (tmps : Array Value), tmps.size = n → (∀ t, tmps.getD t undef = E t) →
   Calls P f (#[.func (.yield (W.heap.size + 1)) #[] #[]] ++ caps) ((W.alloc (.deferred (some []))).alloc (.loop { state := .ready, pending := none, fn, tmps, params := k, assign, body, defers := W.heap.size }))
    fun e w => (∃ v, e = .returned v) ∧ Ew (W.heap.size + 1) (Q [{ target := .collected W.heap.size, args := #[] }]) E w) : xo P n (.rangeFunc g k assign body) Q E W := fun a c => by
 refine wpIn_rangeFunc fun fn _ => ?_
 have j : resolve a.eval (rangeCall g (W.heap.size + 1)) 0 = pure { target := .fn (.func f) caps, args := #[.func (.yield (W.heap.size + 1)) #[] #[]] } := by
  rw [Ag.eval c]
  simp only [resolve, rangeCall]
  rw [o]
  simp [Deferred.ofValue, gv]
 refine ⟨_, _, _, ⟨.fn (.func f) caps, #[.func (.yield (W.heap.size + 1)) #[] #[]]⟩, _, f, #[.func (.yield (W.heap.size + 1)) #[] #[]] ++ caps, _, run_enterLoop_outer fn a.tmps k assign body, by rw [j]; rfl, fun _ _ => trivial, (by rw [show invoke (.fn (.func f) caps) #[.func (.yield (W.heap.size + 1)) #[] #[]] = callFunc f (#[.func (.yield (W.heap.size + 1)) #[] #[]] ++ caps) from rfl]; exact he _ _), fun e => (nomatch (show (none : Option Nat).isSome = true from e)), ?_⟩
 refine ee.2 (bG (h fn a.tmps c.1 c.2.2) ?_)
 rintro e w ⟨⟨v, rfl⟩, ⟨st, pe, p, rt, s, q, r, rd⟩, h1, m, l⟩
 refine ⟨_, _, run_endLoop h1 m, ?_⟩
 simp only at l
 have b : @Ag (Cu [{ target := .collected W.heap.size, args := #[] }]) n { a with defers := [{ target := .collected W.heap.size, args := #[] }] ++ a.defers } E := ⟨c.1, by show _ ++ a.defers = _; rw [show a.defers = [] from c.2.1]; rfl, c.2.2⟩
 rcases l with ⟨d, i⟩ | ⟨d, i⟩ | ⟨id, d, i⟩
 ·subst d; exact ⟨_, E, b, i⟩
 ·subst d; exact wpIn_ret ⟨_, E, b, i⟩
 ·subst d; exact wpIn_exit ⟨_, E, b, i⟩
structure Cp (n : Nat) (ps : List Nat) (assign body : Code) (E : Nat → Value) (Lp : Loop) : Prop where
 st : Lp.state = .ready
 pe : Lp.pending = none
 params : Lp.params.toList = ps
 ax : Lp.assign = assign
 bo : Lp.body = body
 sz : Lp.tmps.size = n
 ev : ∀ t, Lp.tmps.getD t undef = E t
theorem B0 {dd : Bool} {F : Nat → Prop} {w : World} {μ : gT} {L : List (Nat × Obj)} {g : Operand} {b : Array Tmp} {assign body : Code} {f : FuncId} {caps : Array Value} (a : ST dd F w W μ L) (i : gv E g = .func (.func f) #[] caps) (he : ∀ args w, (callFunc f args).run P w = .ok (.enter f args) w) (h : ∀ (l d : Nat) (Lp : Loop) (W1 : World), Cp n b.toList assign body E Lp → ST dd F w W1 μ ((l, .loop Lp) :: (d, .deferred (some [])) :: L) →
   Calls P f (#[.func (.yield l) #[] #[]] ++ caps) W1 fun e w => (∃ v, e = .returned v) ∧ Ew l (Q [{ target := .collected d, args := #[] }]) E w) : xo P n (.rangeFunc g b assign body) Q E W :=
 yQ i he fun fn tmps j c => by
  have h1 := (a.alloc (.deferred (some []))).alloc (.loop { state := .ready, pending := none, fn, tmps, params := b, assign, body, defers := W.heap.size })
  rw [World.size_alloc] at h1
  exact h _ _ _ _ ⟨rfl, rfl, rfl, rfl, rfl, j, c⟩ h1
theorem yM {l : Nat} {f : FuncId} {tmps : Array Value} {assign body : Code} {K : Value → World → Prop} (m : tmps.size = n) (i : ∀ t, tmps.getD t undef = E t) (h : @CW (yo l) P n assign (fun e E1 W1 => e = .normal ∧ ∃ r, W1.heap[l]? = some (.loop r) ∧ r.state = .ready ∧ @CW (yo l) P n body (Fa l K) E1 (W1.putObj l (.loop { r with state := .busy }))) E W) :
  RoundIn Fence.wide 0 P l f tmps assign body W fun e o => ∃ v, e = .returned v ∧ K v o := by
 refine roundIn_of_wpIn trivial (dp (h _ ⟨m, rfl, i⟩) ?_)
 intro e a w b
 cases e with
 | normal =>
  obtain ⟨E1, j, _, r, h1, d, g⟩ := b
  refine ⟨_, run_beginRound h1 d, dp (g a j) ?_⟩
  intro e a w b
  cases e with
  | normal => obtain ⟨E2, _, r, h1, d⟩ := b; exact ⟨_, _, run_endRound none h1, _, rfl, d⟩
  | ret => obtain ⟨E2, _, r, h1, d⟩ := b; exact ⟨_, _, run_endRound (some .ret) h1, _, rfl, d⟩
  | exit id => obtain ⟨E2, _, r, h1, d⟩ := b; exact ⟨_, _, run_endRound (some (.exit id)) h1, _, rfl, d⟩
  | goto t => obtain ⟨E2, _, h⟩ := b; exact h.elim
  | panic c => exact b.2.elim
  | outgrown => exact b.elim
 | panic c => exact absurd b.2.1 (by simp)
 | outgrown => exact b.elim
 | _ => obtain ⟨E', k, h1, _⟩ := b; cases h1
def DA (P : Program) (fn : Func) (R : Ending → World → Prop) (D : List Deferred) : km := fun e E W =>
 (D = [] ∧ pd P fn R e E W) ∨ ∃ d, D = [{ target := .collected d, args := #[] }] ∧ W.heap[d]? = some (.deferred (some [])) ∧ pd P fn R e E (W.putObj d (.deferred none))
theorem z6 {f : FuncId} {fn : Func} {args : List Value} {w : World} {R : Ending → World → Prop} (r : P.funcs[f]? = some fn) (q : fn.body = some c) (s : fn.ntmps = n) (p : args.length ≤ n) (h : xo P n c (fun D => DA P fn R D) (qX args) w) : Calls P f args.toArray w R := by
 refine ee.1 (callsIn_of_wp_marks (n := 0) r q trivial (dp (h _ (Dv s p)) ?_))
 intro e a w ⟨D, b⟩
 have key : ∀ (E : Nat → Value) (e : Exit), (e = .normal ∨ e = .ret) → @Ag (Cu D) n a E → DA P fn R D e E w → LeavesInM Fence.wide 0 P fn a.tmps R a.defers .returning w := by
  intro E e he j u
  rw [j.2.1]
  show LeavesInM Fence.wide 0 P fn a.tmps R D .returning w
  have k : ∀ w, pd P fn R e E w → LeavesInM Fence.wide 0 P fn a.tmps R [] .returning w := fun w h => by
   have i : ∃ v, (∀ tmps : Array Value, (∀ t, tmps.getD t undef = E t) → (results fn tmps).run P w = .ok v w) ∧ R (.returned v) w := by
    rcases he with rfl | rfl <;> exact h
   obtain ⟨v, m, o⟩ := i
   exact ⟨v, m _ j.2.2, o⟩
  rcases u with ⟨rfl, h⟩ | ⟨d, rfl, h1, i⟩
  ·exact k _ h
  ·refine ⟨by simp, .inl ⟨d, _, rfl, run_takeDeferred h1, k _ i⟩⟩
 cases e with
 | normal => obtain ⟨E, g, h⟩ := b; exact key E _ (.inl rfl) g h
 | ret => obtain ⟨E, g, h⟩ := b; exact key E _ (.inr rfl) g h
 | exit id => obtain ⟨E, g, h⟩ := b; rcases h with ⟨_, h⟩ | ⟨_, _, _, h⟩ <;> exact h.elim
 | goto l => obtain ⟨E, g, h⟩ := b; rcases h with ⟨_, h⟩ | ⟨_, _, _, h⟩ <;> exact h.elim
 | panic c => rcases b.2 with ⟨_, h⟩ | ⟨_, _, _, h⟩ <;> exact h.elim
 | outgrown => exact b.elim
end
def CT {σ ρ : Type} (l : Nat) (Lp : Loop) (I : σ → List (Nat × Obj) → Prop) (X : ρ → List (Nat × Obj) → Prop) : σ ⊕ ρ → List (Nat × Obj) → Prop
 | .inl s, R => ∃ R0, R = (l, .loop Lp) :: R0 ∧ I s R0
 | .inr q, R => ∃ R0 r, R = (l, .loop r) :: R0 ∧ r.state = .done ∧ r.pending = some .ret ∧ X q R0
def vK {σ ρ α : Type} (fs : σ → α → Option (σ ⊕ ρ)) : σ ⊕ ρ → α → Option (Bool × (σ ⊕ ρ))
 | .inl s, x => (fs s x).map fun | .inl a => (true, .inl a) | .inr q => (false, .inr q)
 | .inr _, _ => none
def E7 {σ ρ : Type} (w : World) (L0 : List (Nat × Obj)) (l : Nat) (Lp : Loop) (I : σ → List (Nat × Obj) → Prop) (X : ρ → List (Nat × Obj) → Prop) : σ ⊕ ρ → km
 | .inl s, e, _, W => e = .normal ∧ ∃ μ L R, ST false (keys L0) w W μ L ∧ pf L ((l, .loop { Lp with state := .busy }) :: R) ∧ I s R
 | .inr q, e, _, W => e = .ret ∧ ∃ μ L R, ST false (keys L0) w W μ L ∧ pf L ((l, .loop { Lp with state := .busy }) :: R) ∧ X q R
section
variable {σ ρ α : Type} {P : Program} {n l : Nat} {Lp : Loop} {μ : gT} {I : σ → List (Nat × Obj) → Prop} {X : ρ → List (Nat × Obj) → Prop} {av : α → List Value} {fs : σ → α → Option (σ ⊕ ρ)} {E : Nat → Value}
theorem zT {L0 L R : List (Nat × Obj)} {w W : World} {μ : gT} {o o' : Obj} (h : ST false (keys L0) w W μ L) (b : pf L ((l, o) :: R)) : W.heap[l]? = some o ∧ nD false L0 ((l, o') :: R) w (W.putObj l o') := by
 obtain ⟨M, hm⟩ := b
 have h1 := h.perm hm
 have a : ST false (keys L0) w W μ ([] ++ (l, o) :: (R ++ M)) := h1
 exact ⟨(h1.box l o (by simp)).1, ST.yY (L1 := (l, o') :: R) (L2 := M) (ST.setBlock (A := []) a o')⟩
theorem D8 {y : List Nat} {assign body : Code} (J : Cp n y assign body E Lp) (Y : ∀ x, (av x).length = y.length) (T : ∀ p ∈ y, p < n) (h : ∀ W s x r R0, ig μ (oW W ((l, .loop Lp) :: R0)) → I s R0 → fs s x = some r → ST false (keys ((l, .loop Lp) :: R0)) W W (oW W ((l, .loop Lp) :: R0)) ((l, .loop Lp) :: R0) →
   @CW (yo l) P n assign (fun e E1 W1 => e = .normal ∧ ∃ i L1, ig (oW W ((l, .loop Lp) :: R0)) i ∧ ST false (keys ((l, .loop Lp) :: R0)) W W1 i ((l, .loop Lp) :: L1) ∧
    ∀ W2, ST false (keys ((l, .loop Lp) :: R0)) W W2 i ((l, .loop { Lp with state := .busy }) :: L1) → @CW (yo l) P n body (E7 W ((l, .loop Lp) :: R0) l Lp I X r) E1 W2) (EE E (y.zip (av x))) W) :
  wO P (.func (.yield l) #[] #[]) μ (CT l Lp I X) av (fun b => .bool b) (vK fs) := by
 obtain ⟨U, hp, rfl, rfl, rfl, ht, hE⟩ := J
 refine ⟨l, rfl, fun W s x r R hs G hH hN L => ?_⟩
 cases s with
 | inr q => cases L
 | inl s =>
  obtain ⟨R0, rfl, G⟩ := G
  have Q : ∃ g, fs s x = some g ∧ r = (match g with | .inl m => (true, .inl m) | .inr q => (false, .inr q)) := by
   simp only [vK, Option.map_eq_some_iff] at L
   obtain ⟨g, h1, j⟩ := L
   exact ⟨g, h1, by rw [← j]⟩
  obtain ⟨g, O, rfl⟩ := Q
  have hl : W.heap[l]? = some (.loop Lp) := hH _ _ (.head _)
  have w := A0 (M := yo l) (Lp.params.toList.zip (av x)) (a := ⟨Lp.tmps, []⟩) (E := E) ⟨ht, rfl, hE⟩ (fun p hp => T _ (List.of_mem_zip hp).1)
  refine ⟨_, _, _, _, run_yield hl (by simp [Y x]), ?_⟩
  have ez : (Lp.params.zip (av x).toArray).foldl (fun tmps (t, a) => tmps.setIfInBounds t a) Lp.tmps = (Lp.params.toList.zip (av x)).foldl (fun t p => t.setIfInBounds p.1 p.2) Lp.tmps := by
   rw [← Array.foldl_toList]; simp
  rw [ez]
  have u : ST false (keys ((l, .loop Lp) :: R0)) W W (oW W ((l, .loop Lp) :: R0)) ((l, .loop Lp) :: R0) := ST.Cc hH hN
  refine RoundIn.mono (yM (K := fun v w' => ∃ R', nD false ((l, .loop Lp) :: R0) R' W w' ∧ v = .bool (match g with | .inl m => (true, Sum.inl m) | .inr q => (false, .inr q)).1 ∧ CT l Lp I X (match g with | .inl m => (true, Sum.inl m) | .inr q => (false, .inr q)).2 R') w.1 w.2.2 (tK (M := yo l) (h W s x g R0 hs G O u) ?_)) ?_
  ·rintro e E1 W1 ⟨rfl, i, L1, a1, o, hK⟩
   refine ⟨rfl, Lp, (o.box l _ (.head _)).1, U, tK (M := yo l) (hK _ (ST.setBlock (A := []) o _)) ?_⟩
   intro e E3 W3 hq
   cases g with
   | inl m =>
    obtain ⟨rfl, Z, L3, R3, c, d, k⟩ := hq
    obtain ⟨h1, j⟩ := zT (o' := .loop Lp) c d
    refine ⟨_, h1, _, ?_, rfl, R3, rfl, k⟩
    obtain ⟨st, pe, c1, c2, c3, c4, c5, c6⟩ := Lp
    simp only at U hp
    subst U hp
    exact j
   | inr q =>
    obtain ⟨rfl, Z, L3, R3, c, d, k⟩ := hq
    obtain ⟨h1, j⟩ := zT (o' := .loop { Lp with state := .done, pending := some .ret }) c d
    exact ⟨_, h1, _, j, rfl, R3, _, rfl, rfl, rfl, k⟩
  ·rintro e w' ⟨v, rfl, R', h1, j, h3⟩
   exact ⟨v, R', rfl, h1, j, h3⟩
def qW {a α : Type} (fs : a → α → Option (Bool × a)) : a → List α → Option a
 | s, [] => some s
 | s, x :: o => match fs s x with
  | some (true, b) => qW fs b o
  | some (false, b) => some b
  | none => none
end
theorem perm_nil {α : Type} (l : List α) : l.Perm (l ++ []) := by rw [aX]
abbrev A7 (α : Type) (a : Nat) : List α → α → Option (List α ⊕ Empty) := fun s x => (jh a s [x]).map Sum.inl
theorem wY {α : Type} {a : Nat} {l : List α} (h1 : l.length * a ≤ 140737488355328) (b : l.length ≤ maxLen) : ∀ (o s : List α), (s ++ o).length ≤ l.length → qW (vK (A7 α a)) (.inl s) o = some (.inl (s ++ o))
 | [], s, _ => by rw [aX]; rfl
 | x :: o, s, h => by
  have c : jh a s [x] = some (s ++ [x]) := DR h1 b (by simp at h ⊢; omega)
  have d : vK (A7 α a) (.inl s) x = some (true, .inl (s ++ [x])) := by simp [vK, A7, c]
  simp only [qW, d]
  rw [wY h1 b o (s ++ [x]) (by simpa [ay] using h), ay]
  rfl
theorem B9 {P : Program} {W : World} {f : FuncId} {fn : Func} {b : Nat} {es : Array MapEntry} {clock : Nat} (d : P.funcs[f]? = some fn) (a : (fn.name == "runtime.NumGoroutine") = false) (c : fn.body.isNone = true) (i : Extern.findNext fn = none) (he : Extern.find fn = some Extern.MapsClone.clone) (t : TypeId) (h : W.heap[b]? = some (.map es clock)) :
  (callFunc f #[.iface t (.map (some b))]).run P W = .ok (.value (.iface t (.map (some W.heap.size)))) (W.alloc (.map es clock)) := by
 rw [dT d a c i he]
 have e : Extern.MapsClone.clone #[.iface t (.map (some b))] = (getObj b >>= fun o => match o with
   | .map entries clock => (newObj (.map entries clock) >>= fun n => pure (.iface t (.map (some n))))
   | _ => stuck "maps.clone: a map expected") := rfl
 rw [e]
 have g : (getObj b : Sem Obj).run P W = .ok (.map es clock) W := by simp [getObj, Sem.run, h]
 simp [g, run_newObj_alloc]
section
variable {P : Program} {E : Nat → Value} {W : World} {d : Option Nat} {ty : TypeId} {pos : String} {af : Array Edge} {g : Option (Nat × Bool)} {dd : Bool} {F : Nat → Prop} {w : World} {μ : gT} {L : List (Nat × Obj)}
theorem DX {K : Value → World → Prop} {fv x : Operand} {ats : Array TypeId} {f : FuncId} {t : TypeId} {b : Nat} {es : Array MapEntry} {clock : Nat} (a : ST dd F w W μ L) (c : gv E fv = .func (.func f) #[] #[]) (j : gv E x = .iface t (.map (some b))) (i : (callFunc f #[.iface t (.map (some b))]).run P W = .ok (.value (.iface t (.map (some W.heap.size)))) (W.alloc (.map es clock))) (h : ∀ W' m, ST dd F w W' μ ((m, .map es clock) :: L) → K (.iface t (.map (some m))) W') : jx P E ⟨d, .call ⟨.value fv, #[x], ats⟩, ty, pos, af, g⟩ W K := by
 refine .inl ⟨_, _, ?_, h _ _ (a.alloc _)⟩
 show (do let d ← resolve (gv E) ⟨.value fv, #[x], ats⟩ ty; invoke d.target d.args : Sem Next).run P W = _
 rw [← i]
 simp [resolve, c, j, Deferred.ofValue, invoke]
theorem AA {a t k e : TypeId} {x : Operand} {v : Value} (b : P.underlying t = some (.map k e)) (c : gv E x = .iface t v) : iB P E ⟨d, .typeAssert x a t false, ty, pos, af, g⟩ W v W := by
 show (do pure (.value (← Instr.typeAssert (gv E x) a t false)) : Sem Next).run P W = _
 rw [c]
 simp [Instr.typeAssert, aq b]
end
def xH {κ γ : Type} (beq : κ → κ → Bool) (kenc : κ → Value) (vf : γ → Value) (a : Value) (l : List (κ × γ)) (k : κ) (x : γ) (st : Nat) (R : List (Nat × Obj)) : Prop :=
 ∃ m es clock i e, a = .map (some m) ∧ R = [(m, .map es clock)] ∧ my kenc vf (iQ beq l k x) es clock ∧ es[i]? = some e ∧ e.born = st ∧ (iQ beq l k x).findIdx? (fun p => beq k p.1) = some i
section
variable {κ γ : Type} {vf : γ → Value} {beq : κ → κ → Bool} {kenc : κ → Value}
variable {dd : Bool} {P : Program} {W : World} {kt : TypeId} {E : Nat → Value} {d : Option Nat} {ty : TypeId} {pos : String} {af : Array Edge} {g : Option (Nat × Bool)} {F : Nat → Prop} {w : World} {μ : gT} {L : List (Nat × Obj)}
theorem AJ (hk : ∀ {x y : κ}, beq x y = true ↔ x = y) (l : List (κ × γ)) (k : κ) (x : γ) : ∃ i, (iQ beq l k x).findIdx? (fun p => beq k p.1) = some i ∧ (iQ beq l k x)[i]? = some (k, x) := by
 cases a : l.findIdx? (fun p => beq k p.1) with
 | none =>
  rw [na a]
  refine ⟨l.length, ?_, by simp⟩
  rw [de, a]
  simp [cz, hk]
 | some i =>
  obtain ⟨p, hp, _⟩ := kQ a
  rw [ky a]
  have d := (aC.1 hp).1
  refine ⟨i, ?_, by simp [d]⟩
  rw [bF] at a ⊢
  obtain ⟨h1, g, b⟩ := a
  refine ⟨by simpa using h1, by simp [hk], fun j c => ?_⟩
  rw [dU (by omega)]
  exact b j c
theorem CZ (hk : ∀ {x y : κ}, beq x y = true ↔ x = y) (l : List (κ × γ)) (k : κ) (x : γ) : gQ beq (iQ beq l k x) k = some x := by
 obtain ⟨i, h1, a⟩ := AJ hk l k x
 exact qw h1 a
theorem xH.row {a : Value} {l : List (κ × γ)} {k : κ} {x : γ} {st : Nat} {R : List (Nat × Obj)} (h : xH beq kenc vf a l k x st R) : gV kenc vf a (iQ beq l k x) R := by
 obtain ⟨m, es, clock, i, e, h1, b, c, _⟩ := h
 exact ⟨m, es, clock, h1, b, c⟩
theorem wj {Kk : Value → World → Prop} {Y R : List (Nat × Obj)} {t e : TypeId} {m x : Operand} {mv : Value} {x0 : γ} {l : List (κ × γ)} {k : κ} (hk : ∀ {x y : κ}, beq x y = true ↔ x = y) (K : jI P kt kenc beq) (ht : P.underlying t = some (.map kt e)) (hz : ∀ w, (zeroValue e).run P w = .ok (vf x0) w) (I : ST dd F w W μ (R ++ Y)) (h : gV kenc vf mv l R) (hm : gv E m = mv) (hx : gv E x = kenc k) (Q : ∀ W' st R', ST dd F w W' μ (R' ++ Y) → xH beq kenc vf mv l k (iW beq l k x0) st R' → Kk (.tuple #[vf (iW beq l k x0), .int .i64 (st : Nat)]) W') : jx P E ⟨d, .mapEntry t m x, ty, pos, af, g⟩ W Kk := by
 obtain ⟨o, es, clock, rfl, rfl, r⟩ := h
 have s : ST dd F w W μ ([] ++ (o, .map es clock) :: Y) := I
 have T : W.heap[o]? = some (.map es clock) := (I.box o (.map es clock) (by simp)).1
 have h5 : (getObj o : Sem Obj).run P W = .ok (.map es clock) W := by simp [getObj, Sem.run, T]
 have A := K.find k _ _ r.keys W
 rw [r.get k] at A
 have u : ∀ W' v, (Instr.mapEntry t (.map (some o)) (kenc k)).run P W = .ok v W' → (execOp (gv E) ⟨d, .mapEntry t m x, ty, pos, af, g⟩).run P W = .ok (.value v) W' := by
  intro W' v hr
  show (do pure (.value (← Instr.mapEntry t (gv E m) (gv E x))) : Sem Next).run P W = _
  rw [hm, hx]
  simp [hr]
 obtain ⟨ix, a1, a6⟩ := AJ hk l k (iW beq l k x0)
 cases b : l.findIdx? (fun p => beq k p.1) with
 | none =>
  have Z : iW beq l k x0 = x0 := by rw [iW, sP b]; rfl
  rw [b] at A
  have a := r.put (beq := beq) k x0
  rw [b] at a
  rw [Z] at a1 a6 Q
  have n : iQ beq l k x0 = l ++ [(k, x0)] := na b x0
  refine .inl ⟨_, ChangeMaps.setBlock W o (.map (es.push { key := kenc k, val := vf x0, born := clock }) (clock + 1)), u _ (.tuple #[vf x0, .int .i64 (clock : Nat)]) ?_, Q _ clock [(o, .map (es.push { key := kenc k, val := vf x0, born := clock }) (clock + 1))] (s.setBlock _) ⟨o, _, _, es.size, { key := kenc k, val := vf x0, born := clock }, rfl, rfl, by rw [n]; exact a, by simp, rfl, ?_⟩⟩
  ·simp [Instr.mapEntry, aq ht, h5, K.check, A, nM T, hz _, goInt]
  ·rw [n, de, b]
   have O := r.length
   simp [cz, hk, O]
 | some i =>
  obtain ⟨p, hp, U⟩ := kQ b
  have Z : iW beq l k x0 = p.2 := by rw [iW, qw b hp]; rfl
  rw [b] at A
  have a := r.put (beq := beq) k p.2
  rw [b] at a
  have n : iQ beq l k p.2 = l.set i (k, p.2) := ky b p.2
  have O := r.length
  have a7 : i < l.length := (aC.1 hp).1
  obtain ⟨G, c⟩ : ∃ G, es[i]? = some G := ⟨es[i], cX (by omega)⟩
  have J := aw (fun q => q[i]?) r.re
  simp only [ch, bp, c, hp, bJ, dz, eA] at J
  simp only [aa, hp, bJ] at A
  have L : ((es[i]?).map (·.key)).getD (kenc k) = kenc k := by
   rw [c]
   simp only [bJ, dJ, J.1]
   exact K.eq k p.1 U
  have M : es.modify i (fun e => { e with key := kenc k }) = es.modify i (fun e => { e with key := kenc k, val := vf p.2 }) := qz fun e he => by
   rw [c] at he; cases he
   rw [← J.2]
  rw [Z] at Q
  refine .inl ⟨_, ChangeMaps.setBlock W o (.map (es.modify i fun e => { e with key := kenc k, val := vf p.2 }) clock), u _ (.tuple #[vf p.2, .int .i64 (G.born : Nat)]) ?_, Q _ G.born [(o, .map (es.modify i fun e => { e with key := kenc k, val := vf p.2 }) clock)] (s.setBlock _) ⟨o, _, _, i, { G with key := kenc k, val := vf p.2 }, rfl, rfl, by rw [n]; exact a, ?_, rfl, ?_⟩⟩
  ·simp only [Instr.mapEntry, aQ, aq ht, h5, K.check, A, aH, L, Instr.keyThatStays, K.bits, bi, bA]
   rw [nM T, M]
   simp [c, goInt]
  ·rw [cd, ar rfl, c]; rfl
  ·rw [n]
   rw [bF] at b ⊢
   obtain ⟨h1, r, h3⟩ := b
   refine ⟨by simpa using h1, by simp [hk], fun j J => ?_⟩
   rw [dU (by omega)]
   exact h3 j J
theorem uL {L : Value → World → Prop} {Y R : List (Nat × Obj)} {t : TypeId} {m s y : Operand} {J : Value} {x z : γ} {l : List (κ × γ)} {k : κ} {st : Nat} (hk : ∀ {x y : κ}, beq x y = true ↔ x = y) (K : jI P kt kenc beq) (n : ST dd F w W μ (R ++ Y)) (h : xH beq kenc vf J l k x st R) (hm : gv E m = J) (Z : gv E s = .int .i64 (st : Nat)) (hy : gv E y = vf z) (U : ∀ W' R', ST dd F w W' μ (R' ++ Y) → gV kenc vf J (iQ beq l k z) R' → L undef W') : jx P E ⟨d, .entryStore t m s y, ty, pos, af, g⟩ W L := by
 obtain ⟨j, es, clock, i, Q, rfl, rfl, A, c, b, I⟩ := h
 have o : ST dd F w W μ ([] ++ (j, .map es clock) :: Y) := n
 have M : W.heap[j]? = some (.map es clock) := (n.box j (.map es clock) (by simp)).1
 have T : (getObj j : Sem Obj).run P W = .ok (.map es clock) W := by simp [getObj, Sem.run, M]
 obtain ⟨p, hp, G⟩ := kQ I
 have O := aw (fun q => q[i]?) A.re
 simp only [ch, bp, c, hp, bJ, dz, eA] at O
 have a := A.put (beq := beq) k z
 rw [I] at a
 have v : es.modify i (fun e => { e with val := vf z }) = es.modify i (fun e => { e with key := kenc k, val := vf z }) := qz fun e he => by
  rw [c] at he; cases he
  have r : Q.key = kenc k := by rw [O.1]; exact K.eq k p.1 G
  rw [← r]
 have u := yl A.born c
 rw [b] at u
 refine .inr (.inl ⟨ChangeMaps.setBlock W j (.map (es.modify i fun e => { e with key := kenc k, val := vf z }) clock), ?_, U _ [(j, .map (es.modify i fun e => { e with key := kenc k, val := vf z }) clock)] (o.setBlock _) ⟨j, _, _, rfl, rfl, ?_⟩⟩)
 ·show (do Instr.entryStore t (gv E m) (gv E s) (gv E y); pure .skip : Sem Next).run P W = _
  rw [hm, Z, hy]
  simp only [Instr.entryStore, aQ, T, aH, asInt, asIntOf, bA, u]
  rw [nM M, v]
  rfl
 ·rw [← uT (fun x => hk.2 rfl) l k x z, ky I]; exact a
theorem zI {t e : TypeId} {m x : Operand} {a : Value} {l : List (κ × γ)} {k : κ} {x0 : γ} {st : Nat} {R : List (Nat × Obj)} (hk : ∀ {x y : κ}, beq x y = true ↔ x = y) (K : jI P kt kenc beq) (i : P.underlying t = some (.map kt e)) (n : ∀ w, (zeroValue e).run P w = .ok (vf x0) w) (hm : gv E m = a) (j : gv E x = kenc k) (h : xH beq kenc vf a l k (iW beq l k x0) st R) (c : ∀ b o, (b, o) ∈ R → W.heap[b]? = some o) : iB P E ⟨d, .lookup t m x false, ty, pos, af, g⟩ W (vf (iW beq l k x0)) W := by
 have := oB (d := d) (ty := ty) (pos := pos) (af := af) (g := g) K i n hm j (h.row.at c)
 rwa [show iW beq (iQ beq l k (iW beq l k x0)) k x0 = iW beq l k x0 by rw [iW, CZ hk]; rfl] at this
end
end Go.Proofs.YtbnbdigcbldfhaaGreat
namespace Go.Proofs.YtbnbdigcbldfhaaGreat
open Go.IntKind renaming wrap → wi0
open Go.Sort Go.Proofs Go.Shelf
theorem wE {g b : Nat} {o : Obj} : keys [(g, o)] b ↔ b = g := by
 constructor
 ·rintro ⟨o', h⟩
  simp at h
  exact h.1
 ·rintro rfl; exact ⟨o, by simp⟩
theorem tm (w : World) (g m : Nat) (f : Array Value → Array Value) (os : Array Obj) (b : Nat) (c : b < w.heap.size) :
  (Go.Sort.grow (mapBlock (Go.Sort.ahead w m) g f) os).heap[b]? = if g = b then w.heap[b]?.map (onCells f) else w.heap[b]? := by
 have a : b < (mapBlock (Go.Sort.ahead w m) g f).heap.size := by simp only [mapBlock, Go.Sort.ahead, Array.size_modify]; exact c
 rw [heap_grow_old _ _ a]
 simp only [mapBlock, Go.Sort.ahead, cd]
theorem vZ {w : World} {g m : Nat} {f : Array Value → Array Value} {os : Array Obj} {cs : Array Value} {T : TypeId} {fr : Nat × Nat} (c : w.heap[g]? = some (.cells cs T fr)) :
  nD true [(g, .cells cs T fr)] [(g, .cells (f cs) T fr)] w (Go.Sort.grow (mapBlock (Go.Sort.ahead w m) g f) os) := by
 have a : g < w.heap.size := (bx.1 c).1
 refine ⟨⟨rfl, rfl, rfl, ?_, ?_, fun b d i => ?_⟩, fun b o h => ?_, by simp⟩
 ·refine np.of ?_
  show w.drawn ≤ w.drawn + m
  omega
 ·show w.heap.size ≤ (w.heap.modify g (onCells f) ++ os).size
  simp
 ·rw [tm _ _ _ _ _ _ d, al fun h => i (wE.2 h.symm)]
 ·simp only [ak, cc, dV, eA] at h
  obtain ⟨rfl, rfl⟩ := h
  refine ⟨?_, .inr (wE.2 rfl)⟩
  rw [tm _ _ _ _ _ _ a, ar rfl, c]
  rfl
theorem Bi {w W : World} (h : Ex true w W) : ∃ q os, W = Go.Sort.grow (w.drewN q) os := by
 refine ⟨W.drawn - w.drawn, W.heap.extract w.heap.size W.heap.size, ?_⟩
 have d : W.heap = w.heap ++ W.heap.extract w.heap.size W.heap.size := by
  apply Array.ext_getElem?
  intro i
  rw [eo]
  split
  ·rename_i g; exact h.iM i g
  ·rename_i g
   rw [Array.getElem?_extract]
   have k := h.size
   split
   ·rw [show w.heap.size + (i - w.heap.size) = i by omega]
   ·exact Array.getElem?_eq_none (by omega)
 obtain ⟨h1, l, m, n, o⟩ := W
 have a := h.os; have b := h.tape; have c := h.output; have j := h.drawn rfl
 simp only at a b c j d
 unfold Go.Sort.grow World.drewN
 simp only [World.mk.injEq]
 exact ⟨d, b, by omega, a, c⟩
theorem AY {α : Type} [Inhabited α] {enc : α → List Value} {k : Nat} (hk : ∀ x, (enc x).length = k) (l : List α) (j : Nat) (a : j < l.length * k) :
  (l.map enc).flatten[j]? = some ((flatK enc k l.toArray)[j]!) := by
 have d : 0 < k := by
  cases k with
  | zero => simp at a
  | succ n => omega
 have h1 : j / k < l.length := (Nat.div_lt_iff_lt_mul d).2 a
 rw [get_flatK _ _ _ _ (by simpa using a)]
 have g : l.toArray[j / k]! = l[j / k] := by
  rw [fU l.toArray (j / k) (by simpa using h1)]; simp
 rw [g]
 have b : j % k < (enc l[j / k]).length := by rw [hk]; exact Nat.mod_lt _ d
 have c := qQ hk l (j / k) l[j / k] (bX h1) (j % k) ((enc l[j / k])[j % k]) (bX b)
 rw [Nat.div_add_mod' j k] at c
 rw [c, fU (enc l[j / k]) (j % k) b]
theorem yT {α : Type} [Inhabited α] {enc : α → List Value} {k : Nat} (hk : ∀ x, (enc x).length = k) {w : World} {g : Nat} {cs : Array Value} {T : TypeId} (b : w.heap[g]? = some (.cells cs T (0, 0))) (l : List α)
  (d : cs.toList.take (l.length * k) = (l.map enc).flatten) : HoldsK enc k w g 0 l.toArray := by
 intro j c
 have a : j < l.length * k := by simpa using c
 have h1 := AY hk l j a
 rw [← d, cK, ar a] at h1
 refine ⟨?_, ?_⟩
 ·simp only [World.cell?, b, dI]
  simpa using h1
 ·simp [World.frozen?, b]
theorem AD {α : Type} [Inhabited α] {enc : α → List Value} {k : Nat} (hk : ∀ x, (enc x).length = k) {cs : Array Value} (l : List α) (b : l.length * k ≤ cs.size) :
  (putCells id 0 (flatK enc k l.toArray) cs).toList.take (l.length * k) = (l.map enc).flatten := by
 apply cC
 intro j
 rw [cK]
 split
 ·rename_i a
  rw [AY hk l j a]
  simp only [putCells, bp, Array.getElem?_mapIdx, size_flatK, cr]
  rw [cX (by omega)]
  simp [a]
 ·rename_i a
  rw [cE (by rw [lC hk]; omega)]
theorem yV (enc : Value → Value) (o : Nat) (d c : Array Value) : (putCells enc o d c).size = c.size := by simp [putCells]
section
variable {α : Type} {P : Program} {ρ : Ren}
theorem EO {l : List α} {cf : α × α → Option Int} (h : tR cf l) : SWO (ltOf fun (x y : {x // x ∈ l}) => (cf (x.1, y.1)).getD 0) ∧
  (∀ x y : {x // x ∈ l}, ltOf (fun (x y : {x // x ∈ l}) => (cf (x.1, y.1)).getD 0) x y = mx cf x.1 y.1) := by
 have e : ∀ x y : {x // x ∈ l}, ltOf (fun (x y : {x // x ∈ l}) => (cf (x.1, y.1)).getD 0) x y = mx cf x.1 y.1 := fun x y => by
  obtain ⟨c, g⟩ := h.is x.1 x.2 y.1 y.2
  simp [ltOf, mx, g]
 refine ⟨⟨fun x => ?_, fun x y z => ?_, fun x y z => ?_⟩, e⟩
 ·rw [e]; exact h.irrefl _ x.2
 ·rw [e, e, e]; exact h.trans _ x.2 _ y.2 _ z.2
 ·rw [e, e, e]
  intro h1 b
  cases a : mx cf x.1 z.1 with
  | false => rfl
  | true =>
   cases d : mx cf y.1 x.1 with
   | true =>
    have := h.trans _ y.2 _ x.2 _ z.2 d a
    rw [b] at this; cases this
   | false =>
    have := h.total _ x.2 _ y.2 h1 d
    rw [this, b] at a; cases a
theorem wm (L : SlLaysF0.n6 P ρ) (k : Nat) (aE : ∀ w, (isAgg (ρ.t 24)).run P w = .ok true w) (zE : ∀ w, (Go.sizeOf (ρ.t 24)).run P w = .ok k w) {e : TypeId} (enc : α → List Value) (hk : ∀ x, (enc x).length = k) (h1 : ∀ x, ∀ u ∈ enc x, u.oneCell' = true) {v fv : Value} {l r : List α} {R : List (Nat × Obj)} {cf : α × α → Option Int} {w : World} {μ0 : gT} (hH : vd (R ++ []) w) (E : ig μ0 (oW w (R ++ []))) (Y : gI e enc k v l R) (hc : xh P fv μ0 (fun (x : α × α) => [(.agg (enc x.1).toArray), (.agg (enc x.2).toArray)]) (fun (r : Int) => (.int .i64 r)) cf) (hm : qy cf l = some r) :
  ir true P (ρ.f 6) [v, fv] w (R ++ []) (fun u L1 _ => ∃ (S : List (Nat × Obj)), u = (.tuple #[]) ∧ L1 = (S ++ []) ∧ gI e enc k v r S) := by
 obtain ⟨ok, rfl⟩ := xA hm
 rw [aX] at hH E ⊢
 rcases cy l.length with h0 | i
 ·have hl : l = [] := cq h0
  subst hl
  have Z : lE cf ([] : List α) = [] := by simp [lE]
  rw [Z]
  obtain ⟨p, c, rfl⟩ : ∃ p c, v = .slice p 0 c := by
   rcases Y with ⟨rfl, _, _⟩ | ⟨g, cap, j, rfl, _⟩
   ·exact ⟨_, _, rfl⟩
   ·exact ⟨_, _, rfl⟩
  refine bG (AnyF.slices_SortFunc_none L p c fv w) fun x w' ⟨hx, hw⟩ => ?_
  subst hx hw
  refine ⟨_, R, rfl, ⟨⟨rfl, rfl, rfl, np.of (aJ _), aJ _, fun _ _ _ => rfl⟩, fun b o h => ⟨hH b o h, .inr ⟨o, h⟩⟩, ?_⟩, R, rfl, (aX R).symm, Y⟩
  rcases Y with ⟨_, _, rfl⟩ | ⟨g, cap, j, _, rfl, _⟩ <;> simp
 ·rcases Y with ⟨_, rfl, _⟩ | ⟨g, cap, j, rfl, rfl, a8, a7, M, ao⟩
  ·simp at i
  have hg : w.heap[g]? = some (.cells j e (0, 0)) := hH g _ (by simp)
  have ab : g < w.heap.size := (bx.1 hg).1
  haveI : Inhabited {x // x ∈ l} := ⟨⟨l[0], List.getElem_mem i⟩⟩
  obtain ⟨gg, caps, rfl, O, q⟩ := hc
  obtain ⟨hO, Q⟩ := EO ok
  have G : l.attach.toArray.size = l.length := by simp
  have ad : l.attach.map (fun x => enc x.1) = l.map enc := by
   rw [show (fun x : {x // x ∈ l} => enc x.1) = enc ∘ Subtype.val from rfl, ← cO, List.attach_map_subtype_val]
  have a1 : HoldsK (fun x : {x // x ∈ l} => enc x.1) k w g 0 l.attach.toArray := yT (fun x => hk x.1) hg l.attach (by rw [ad, List.length_attach, ao])
  have K : CmpLays P gg caps (fun x : {x // x ∈ l} => enc x.1) k (fun x y => (cf (x.1, y.1)).getD 0) g 0 l.attach.toArray.size w := by
   intro m os dk b0 x y
   obtain ⟨c, J⟩ := ok.is x.1 x.2 y.1 y.2
   have W : ig μ0 (hp (sortWorldK (fun x : {x // x ∈ l} => enc x.1) k w g 0 m dk os)) := fun b o hb => by
    have A := E b o hb
    unfold oW at A
    split at A
    ·cases A
    ·rename_i hn
     have a6 : b < w.heap.size := (bx.1 A).1
     show (Go.Sort.grow (mapBlock (Go.Sort.ahead w m) g _) os).heap[b]? = _
     rw [tm _ _ _ _ _ _ a6, al fun h => hn (wE.2 h.symm)]
     exact A
   have h3 := q (sortWorldK (fun x : {x // x ∈ l} => enc x.1) k w g 0 m dk os) (x.1, y.1) c W J
   have ea : ([Value.agg (enc x.1).toArray, Value.agg (enc y.1).toArray] ++ caps.toList).toArray = #[Value.agg (enc x.1).toArray, Value.agg (enc y.1).toArray] ++ caps := by
    apply Array.ext'; simp
   rw [← ea]
   exact bG h3 fun u W' hu => ⟨by rw [hu.1]; show _ = Ending.returned (.int .i64 ((cf (x.1, y.1)).getD 0)); rw [J]; rfl, Bi hu.2⟩
  have hT : ∀ x y : {x // x ∈ l}, ltOf (fun (x y : {x // x ∈ l}) => (cf (x.1, y.1)).getD 0) x y = false → ltOf (fun (x y : {x // x ∈ l}) => (cf (x.1, y.1)).getD 0) y x = false → x = y := fun x y a b => by
   rw [Q] at a b
   exact Subtype.ext (ok.total _ x.2 _ y.2 a b)
  have d := AnyQ.slices_SortFunc_total L k aE zE (fun x : {x // x ∈ l} => enc x.1) (fun x => hk x.1) (fun x => h1 x.1) (fun x y => (cf (x.1, y.1)).getD 0) hO gg caps g 0 cap l.attach.toArray w O K a1 ab (by rw [G]; exact ok.short) hT
  rw [G] at d
  refine bG d fun u w' ⟨hu, n, os, hw⟩ => ?_
  subst hu
  generalize Z : l.attach.toArray.toList.mergeSort (fun x y => !ltOf (fun (x y : {x // x ∈ l}) => (cf (x.1, y.1)).getD 0) y x) = s at hw
  have af : s.map Subtype.val = lE cf l := by
   rw [← Z, eU (s := fun x y => !mx cf y x) (fun a _ b _ => by rw [Q])]
   simp [lE]
  have U : s.length = l.length := by rw [← Z, er]; simp
  have T : (lE cf l).length = l.length := by simp [lE, er]
  have I := vZ (w := w) (m := n) (f := putCells id 0 (flatK (fun x : {x // x ∈ l} => enc x.1) k s.toArray)) (os := os) hg
  have av : w' = Go.Sort.grow (mapBlock (Go.Sort.ahead w n) g (putCells id 0 (flatK (fun x : {x // x ∈ l} => enc x.1) k s.toArray))) os := hw
  rw [← av] at I
  refine ⟨_, _, rfl, I, _, rfl, (aX _).symm, .inr ⟨g, cap, _, by rw [T], rfl, by omega, a7, by rw [yV, M], ?_⟩⟩
  rw [T, ← U, AD (fun x => hk x.1) s (by rw [U, M]; exact aW k a8), ← af, cO]
  rfl
end
theorem uX (b : ByteArray) : b.toList = b.data.toList := by rw [dj]
theorem zd (l : List ByteArray) : (l.map iL).flatten = l.map Value.string := by
 induction l with
 | nil => rfl
 | cons x l ih => simp only [aN, bP, ih]; rfl
theorem zp (l : List ByteArray) : (iN l).map (fun b => b.data.toList) = (l.map (fun b => b.data.toList)).mergeSort (fun x y => decide (x ≤ y)) := by
 unfold iN
 refine eU fun a _ b _ => ?_
 unfold kL
 rw [bytesLess_eq, uX, uX]
 by_cases h : a.data.toList ≤ b.data.toList
 ·have c : ¬ b.data.toList < a.data.toList := List.not_lt.2 h
  simp [h, c]
 ·have c : b.data.toList < a.data.toList := by
   cases Decidable.em (b.data.toList < a.data.toList) with
   | inl d => exact d
   | inr d => exact absurd (List.not_lt.1 d) h
  simp [h, c]
section
variable {P : Program} {ρ : Ren}
theorem Aq (L : SlLaysM.n6 P ρ) {e : TypeId} {v : Value} {l r : List ByteArray} {R : List (Nat × Obj)} {w : World} (hH : vd (R ++ []) w) (E : gI e iL 1 v l R) (hm : vQ l = some r) :
  ir true P (ρ.f 6) [v] w (R ++ []) (fun u L1 _ => ∃ (S : List (Nat × Obj)), u = (.tuple #[]) ∧ L1 = (S ++ []) ∧ gI e iL 1 v r S) := by
 unfold vQ at hm
 split at hm
 ·rename_i k
  cases hm
  rw [aX] at hH ⊢
  rcases cy l.length with T | s
  ·have Y : l = [] := cq T
   subst Y
   have hs : iN [] = [] := by simp [iN]
   rw [hs]
   obtain ⟨p, c, rfl⟩ : ∃ p c, v = .slice p 0 c := by
    rcases E with ⟨rfl, _, _⟩ | ⟨g, cap, d, rfl, _⟩
    ·exact ⟨_, _, rfl⟩
    ·exact ⟨_, _, rfl⟩
   refine bG (AnyM.slices_Sort_string_none L p c w) fun x Q ⟨hx, hw⟩ => ?_
   subst hx hw
   refine ⟨_, R, rfl, ⟨⟨rfl, rfl, rfl, np.of (aJ _), aJ _, fun _ _ _ => rfl⟩, fun b o h => ⟨hH b o h, .inr ⟨o, h⟩⟩, ?_⟩, R, rfl, (aX R).symm, E⟩
   rcases E with ⟨_, _, rfl⟩ | ⟨g, cap, d, _, rfl, _⟩ <;> simp
  ·rcases E with ⟨_, rfl, _⟩ | ⟨g, cap, d, rfl, rfl, Z, I, J, M⟩
   ·simp at s
   have y : w.heap[g]? = some (.cells d e (0, 0)) := hH g _ (by simp)
   have K : g < w.heap.size := (bx.1 y).1
   have G : Holds encStr w g 0 (l.map (fun b => b.data.toList)).toArray := by
    intro j A
    have i : j < l.length := by simpa using A
    have h1 : (d.toList.take (l.length * 1))[j]? = ((l.map iL).flatten)[j]? := by rw [M]
    rw [zd, cK, ar (by omega), ch, bX i] at h1
    refine ⟨?_, by simp [World.frozen?, y]⟩
    simp only [World.cell?, y, dI]
    rw [fU _ j A]
    simpa using h1
   have a := AnyM.slices_Sort_string L g 0 cap (l.map (fun b => b.data.toList)) w G K (by simpa using k)
   rw [bN, ← zp] at a
   refine bG a fun u Q ⟨hu, n, os, hw⟩ => ?_
   subst hu
   have t : (iN l).length = l.length := by simp [iN, er]
   have q := vZ (w := w) (m := n) (f := putCells encStr 0 ((iN l).map (fun b => b.data.toList)).toArray) (os := os) y
   have O : Q = Go.Sort.grow (mapBlock (Go.Sort.ahead w n) g (putCells encStr 0 ((iN l).map (fun b => b.data.toList)).toArray)) os := hw
   rw [← O] at q
   refine ⟨_, _, rfl, q, _, rfl, (aX _).symm, .inr ⟨g, cap, _, by rw [t], rfl, by omega, I, by simpa [putCells] using J, ?_⟩⟩
   rw [t, zd]
   apply cC
   intro j
   rw [cK]
   split
   ·rename_i A
    have i : j < (iN l).length := by omega
    rw [ch, bX i]
    simp only [putCells, bp, Array.getElem?_mapIdx]
    rw [cX (by omega)]
    have U : j < ((iN l).map (fun b => b.data.toList)).toArray.size := by simpa using i
    have W : 0 ≤ j ∧ j < 0 + ((iN l).map (fun b => b.data.toList)).toArray.size := ⟨by omega, by omega⟩
    simp only [bJ, ar W, Nat.sub_zero]
    rw [fU _ j U]
    simp
   ·rename_i A
    rw [cE (by simp; omega)]
 ·cases hm
end
end Go.Proofs.YtbnbdigcbldfhaaGreat
namespace Go.Proofs.YtbnbdigcbldfhaaGreat
open Go.IntKind renaming wrap → wi0
open Go.WideElems Go.WideShapes Go.Sort Go.Proofs Go.Shelf
theorem Ax {β : Type} {vf : β → Value} {P : Program} {kt : TypeId} (y : P.underlying kt = some .string) {l : List (ByteArray × β)} {es : Array MapEntry} {clock : Nat} (h : my Value.string vf l es clock) (u : (l.map (·.1)).Nodup) (w : ∀ p ∈ l, p.1.size ≤ maxLen) (t : l.length ≤ maxLen) {W : World} {b : Nat} (r : W.heap[b]? = some (.map es clock)) : ∃ D : DataW Unit, W.ownsMap P kt (fun _ => some (.lit (.bool true), [])) b es.size D ∧ (strKeys D).Perm (l.map (fun p => p.1.data.toList)) ∧ Maps.size D = l.length := by
 have c := h.keys
 have m : ∀ x ∈ es.toList, ∃ s : ByteArray, x.key = .string s ∧ s.size ≤ maxLen := fun x i => by
  have h1 : x.key ∈ es.toList.map (·.key) := aK.2 ⟨x, i, rfl⟩
  rw [c] at h1
  obtain ⟨s, g, j⟩ := aK.1 h1
  obtain ⟨p, o, q⟩ := aK.1 g
  exact ⟨s, j.symm, by rw [← q]; exact w p o⟩
 have d : ∀ x ∈ es.toList, ∃ s : ByteArray, x.key = .string s ∧ Go.WideElems.rd (H := Unit) P kt (fun _ => some (.lit (.bool true), [])) x = some (.string s.data.toList, .lit (.bool true)) := fun x i => by
  obtain ⟨s, h1, g⟩ := m x i
  refine ⟨s, h1, ?_⟩
  simp [Go.WideElems.rd, keyOf, y, mapKey, h1, g]
 refine ⟨_, ⟨es, clock, r, ⟨by rw [h.length]; exact t, ⟨h.lt, ?_, ?_⟩, fun x i => ?_⟩, aJ _, rfl⟩, ?_, ?_⟩
 ·have := h.born
  rw [List.Nodup, ct]
  exact this.imp (fun {a b} h => by omega)
 ·rw [c]
  rw [List.Nodup, ct]
  exact u.imp (fun {a b} k e => k (by injection e))
 ·obtain ⟨s, _, g⟩ := d x i
  exact ⟨_, g⟩
 ·have h1 := (sorted_perm (es.toList.map (Go.WideElems.rg (H := Unit) P kt (fun _ => some (.lit (.bool true), []))))).map (fun p => strOf p.1)
  refine List.Perm.trans h1 ?_
  have e : (es.toList.map (Go.WideElems.rg (H := Unit) P kt (fun _ => some (.lit (.bool true), [])))).map (fun p => strOf p.1) = l.map (fun p => p.1.data.toList) := by
   have n : (es.toList.map (Go.WideElems.rg (H := Unit) P kt (fun _ => some (.lit (.bool true), [])))).map (fun p => strOf p.1) = (es.toList.map (·.key)).map (fun v => match v with | .string s => s.data.toList | _ => []) := by
    rw [cO, cO]
    refine eG fun x i => ?_
    obtain ⟨s, g, j⟩ := d x i
    simp [Go.WideElems.rg, j, g, strOf]
   rw [n, c, cO, cO]
   rfl
  rw [e]
 ·have h1 := (sorted_perm (es.toList.map (Go.WideElems.rg (H := Unit) P kt (fun _ => some (.lit (.bool true), []))))).length_eq
  show (List.foldr DataW.insert [] _).length = _
  rw [h1, bN, ← h.length]
  simp
theorem yL {l : List ByteArray} {g : List (List UInt8)} (h : g.Perm (l.map fun b => b.data.toList)) : g.mergeSort (fun x y => decide (x ≤ y)) = (iN l).map (fun b => b.data.toList) := by
 rw [zp]
 have le : ∀ a b c : List UInt8, decide (a ≤ b) = true → decide (b ≤ c) = true → decide (a ≤ c) = true := fun a b c h1 d => by
  simp only [df] at *
  exact List.le_trans h1 d
 have tot : ∀ a b : List UInt8, (decide (a ≤ b) || decide (b ≤ a)) = true := fun a b => by
  simp only [dv, df]
  exact List.le_total a b
 refine List.Perm.eq_of_pairwise (le := fun a b => decide (a ≤ b) = true) (fun a b _ _ h1 d => List.le_antisymm (by simpa using h1) (by simpa using d)) (ed le tot _) (ed le tot _) ?_
 exact (dn _ _).trans (h.trans (dn _ _).symm)
section
variable {P : Program} {ρk ρt ρm : Ren}
theorem Al (LK : SlLaysZ.n7 P ρk) (LT : SlLaysZ.n6 P ρt) (LM : SlLaysM.n6 P ρm) (h9 : ρt.f 9 = ρm.f 6) (hK : P.underlying (ρk.t 26) = some .string) (eg : ∀ args w, (callFunc (ρk.f 10) args).run P w = .ok (.enter (ρk.f 10) args) w) (es : ∀ args w, (callFunc (ρt.f 9) args).run P w = .ok (.enter (ρt.f 9) args) w) {β : Type} {vf : β → Value} {l : List (ByteArray × β)} {b : Nat} {mv : Value} {t : TypeId} {W : World} {r : List ByteArray} (u : W.heap[b]? = some (.cells #[mv] t (0, 0))) (hm : lz Value.string vf (hp W) mv l) (hk : xj l = some r) :
  iz false P (ρt.f 6) [.func (.func (ρk.f 10)) #[] #[.pointer (some ⟨b, 0, none⟩)]] W (ρt.t 26) iL 1 r := by
 unfold xj at hk
 split at hk
 case isFalse => cases hk
 rename_i hc
 obtain ⟨T, U, Y⟩ := hc
 cases hk
 have i : b < W.heap.size := (bx.1 u).1
 have c : W.cell? ⟨b, 0, none⟩ = some mv := by simp [World.cell?, u]
 have q : AnyZ.SortsIn P ρt Fence.wide 4 :=
  ⟨fun M off cap d W hH hblk s => ee.2 (by rw [h9]; exact AnyM.slices_Sort_string LM M off cap d W hH hblk s), fun p cap W => ee.2 (by rw [h9]; exact AnyM.slices_Sort_string_none LM p cap W)⟩
 have K : SeqGives Fence.wide 2 P (ρk.f 10) #[.pointer (some ⟨b, 0, none⟩)] encStr (fun d => d.Perm ((l.map (·.1)).map fun b => b.data.toList)) l.length W := by
  rcases hm with ⟨rfl, rfl⟩ | ⟨m, es, clock, rfl, a6, E⟩
  ·have := AnyZ.keys_gives_nil (ρ := ρk) { LK with } Fence.wide 2 trivial rfl b W i c
   intro l' J W' Q O R L
   refine CallsIn.mono (this l' J W' Q O R L) ?_
   rintro e w' ⟨hv, d, rfl, hj⟩
   exact ⟨hv, [], dr _, hj⟩
  ·obtain ⟨D, G, n, s⟩ := Ax hK E T U (by unfold maxLen; omega) a6
   have := AnyZ.keys_gives (ρ := ρk) { LK with } Fence.wide 2 trivial rfl (by omega) b m es.size D W i c G
   intro l' J W' Q O R L
   refine CallsIn.mono (this l' J W' Q O (by rw [s]; exact R) L) ?_
   rintro e w' ⟨hv, d, hp, hj⟩
   refine ⟨hv, d, ?_, hj⟩
   rw [cO]
   exact hp.trans n
 have cS := AnyZ.sorted_in LT Fence.wide 5 trivial trivial trivial trivial rfl (by omega) q es (ρk.f 10) #[.pointer (some ⟨b, 0, none⟩)] trivial eg _ l.length (by unfold maxLen; omega) Y W K
 refine bG (ee.1 cS) ?_
 rintro e w' ⟨v, d, rfl, hS, I, a8, a⟩
 have hs := yL hS
 have hlen : d.length = (iN (l.map (·.1))).length := by
  have := aw List.length hs
  simpa using this
 have k : (d.mergeSort (fun x y => decide (x ≤ y))).map encStr = ((iN (l.map (·.1))).map iL).flatten := by
  rw [hs, zd, cO]
  refine eG (fun x _ => ?_)
  simp only [Function.comp, encStr]
 rcases I.2 with ⟨rfl, L⟩ | ⟨g, cap, A, rfl, j, hg, ab, Z, a1, a7⟩
 ·have : iN (l.map (·.1)) = [] := cq (by omega)
  rw [this]
  exact ⟨_, [], rfl, nD.yZ ⟨a.os, a.tape, a.output, fun h => (by cases h), a.size, fun b u => a.block b u⟩ (fun _ _ h => by cases h) (by simp), gI.nil _ _ _⟩
 ·refine ⟨_, [(g, .cells A (ρt.t 26) (0, 0))], rfl, nD.yZ ⟨a.os, a.tape, a.output, fun h => (by cases h), a.size, fun b u => a.block b u⟩ (fun b o h => by simp at h; obtain ⟨rfl, rfl⟩ := h; exact ⟨hg, j⟩) (by simp), .inr ⟨g, cap, A, by rw [hlen], rfl, by omega, Z, a1, ?_⟩⟩
  rw [← hlen, a7, k]
end
end Go.Proofs.YtbnbdigcbldfhaaGreat
namespace Go.Proofs.YtbnbdigcbldfhaaGreat
open Go.IntKind renaming wrap → wi0
def dt := @Tryz.underlying9
def dw := @Tryz.zeroValue9
def dK := @Tryz.underlying0
def dY := @Tryz.zeroValue0
def ek := @Tryz.sizeOf9
def ew := @Tryz.underlying4
def eD := @Tryz.isAgg9
def eF := @Tryz.zeroValue4
def eO := @Tryz.sizeOf0
def eV := @Tryz.underlying215
def eW := @Tryz.underlying261
def eX := @Tryz.underlying262
def eY := @Tryz.underlying268
def eZ := @Tryz.underlying270
def fa := @Tryz.underlying291
def fb := @Tryz.underlying295
def fc := @Tryz.underlying315
def fe := @Tryz.underlying142
def fg := @Tryz.underlying112
def fu := @Tryz.isAgg0
def fw := @Tryz.zeroValue215
def fx := @Tryz.zeroValue261
def fy := @Tryz.zeroValue262
def fz := @Tryz.underlying39
def fC := @Tryz.zeroValue268
def fD := @Tryz.zeroValue270
def fE := @Tryz.zeroValue291
def fF := @Tryz.zeroValue295
def fG := @Tryz.zeroValue315
def fH := @Tryz.zeroValue142
def fI := @Tryz.zeroValue112
def fQ := @Tryz.underlying3
def fR := @Tryz.underlying5
def fS := @Tryz.zeroValue39
def fV := @Tryz.sizeOf4
def gd := @Tryz.zeroValue3
def gf := @Tryz.zeroValue5
def gi := @Tryz.isAgg4
def B2 : Go.Shelf.Ren := ⟨fun | 6 => 116 | 15 => 179 | 14 => 178 | 28 => 225 | 29 => 226 | 20 => 217 | 21 => 218 | 22 => 219 | 23 => 220 | 24 => 221 | 25 => 222 | 26 => 223 | 27 => 224 | 46 => 255 | 47 => 256 | 48 => 257 | 49 => 258 | 50 => 259 | 57 => 290 | n => n, fun | 22 => 22 | 24 => 108 | 25 => 133 | 3 => 3 | 39 => 215 | 0 => 0 | 53 => 268 | 55 => 270 | 4 => 4 | 46 => 262 | 45 => 261 | 50 => 39 | 5 => 5 | 9 => 9 | 66 => 291 | 70 => 295 | 76 => 315 | 77 => 142 | n => n, fun | n => n⟩
theorem Fi : Go.Proofs.SlLaysF0.n6 Tryz.prog B2 := {
 mixed := by kernel_rfl,
 f6 := ⟨Tryz.f116.name, by decide, Tryz.func116.trans (aw some (by kernel_rfl))⟩,
 f14 := ⟨Tryz.f178.name, by decide, Tryz.func178.trans (aw some (by kernel_rfl))⟩,
 f15 := Tryz.func179.trans (aw some (by kernel_rfl)),
 f20 := ⟨Tryz.f217.name, by decide, Tryz.func217.trans (aw some (by kernel_rfl))⟩,
 f21 := ⟨Tryz.f218.name, by decide, Tryz.func218.trans (aw some (by kernel_rfl))⟩,
 f22 := ⟨Tryz.f219.name, by decide, Tryz.func219.trans (aw some (by kernel_rfl))⟩,
 f23 := ⟨Tryz.f220.name, by decide, Tryz.func220.trans (aw some (by kernel_rfl))⟩,
 f24 := ⟨Tryz.f221.name, by decide, Tryz.func221.trans (aw some (by kernel_rfl))⟩,
 f25 := ⟨Tryz.f222.name, by decide, Tryz.func222.trans (aw some (by kernel_rfl))⟩,
 f26 := ⟨Tryz.f223.name, by decide, Tryz.func223.trans (aw some (by kernel_rfl))⟩,
 f27 := ⟨Tryz.f224.name, by decide, Tryz.func224.trans (aw some (by kernel_rfl))⟩,
 f28 := Tryz.func225.trans (aw some (by kernel_rfl)),
 f29 := Tryz.func226.trans (aw some (by kernel_rfl)),
 f46 := ⟨Tryz.f255.name, by decide, Tryz.func255.trans (aw some (by kernel_rfl))⟩,
 f47 := Tryz.func256.trans (aw some (by kernel_rfl)),
 f48 := Tryz.func257.trans (aw some (by kernel_rfl)),
 f49 := ⟨Tryz.f258.name, by decide, Tryz.func258.trans (aw some (by kernel_rfl))⟩,
 f50 := ⟨Tryz.f259.name, by decide, Tryz.func259.trans (aw some (by kernel_rfl))⟩,
 f57 := ⟨Tryz.f290.name, by decide, Tryz.func290.trans (aw some (by kernel_rfl))⟩,
 t0 := dK,
 a0 := fu,
 z0 := eO,
 v0 := dY,
 t3 := fQ,
 a3 := Tryz.isAgg3,
 z3 := Tryz.sizeOf3,
 v3 := gd,
 t4 := ew,
 a4 := gi,
 z4 := fV,
 v4 := eF,
 t5 := fR,
 a5 := Tryz.isAgg5,
 z5 := Tryz.sizeOf5,
 v5 := gf,
 t9 := dt,
 a9 := eD,
 z9 := ek,
 v9 := dw,
 t22 := Tryz.underlying22,
 a22 := Tryz.isAgg22,
 z22 := Tryz.sizeOf22,
 v22 := Tryz.zeroValue22,
 t25 := Tryz.underlying133,
 a25 := Tryz.isAgg133,
 z25 := Tryz.sizeOf133,
 v25 := Tryz.zeroValue133,
 t39 := eV,
 a39 := Tryz.isAgg215,
 z39 := Tryz.sizeOf215,
 v39 := fw,
 t45 := eW,
 a45 := Tryz.isAgg261,
 z45 := Tryz.sizeOf261,
 v45 := fx,
 t46 := eX,
 a46 := Tryz.isAgg262,
 z46 := Tryz.sizeOf262,
 v46 := fy,
 t50 := fz,
 a50 := Tryz.isAgg39,
 z50 := Tryz.sizeOf39,
 v50 := fS,
 t53 := eY,
 a53 := Tryz.isAgg268,
 z53 := Tryz.sizeOf268,
 v53 := fC,
 t55 := eZ,
 a55 := Tryz.isAgg270,
 z55 := Tryz.sizeOf270,
 v55 := fD,
 t66 := fa,
 a66 := Tryz.isAgg291,
 z66 := Tryz.sizeOf291,
 v66 := fE,
 t70 := fb,
 a70 := Tryz.isAgg295,
 z70 := Tryz.sizeOf295,
 v70 := fF,
 t76 := fc,
 a76 := Tryz.isAgg315,
 z76 := Tryz.sizeOf315,
 v76 := fG,
 t77 := fe,
 a77 := Tryz.isAgg142,
 z77 := Tryz.sizeOf142,
 v77 := fH}
def Ci : Go.Shelf.Ren := ⟨fun | 6 => 122 | 15 => 179 | 14 => 185 | 28 => 225 | 29 => 226 | 20 => 230 | 21 => 231 | 22 => 232 | 23 => 233 | 24 => 234 | 25 => 235 | 26 => 236 | 27 => 237 | 46 => 269 | 47 => 256 | 48 => 257 | 49 => 270 | 50 => 271 | 57 => 295 | n => n, fun | 22 => 25 | 24 => 30 | 25 => 119 | 3 => 3 | 39 => 215 | 0 => 0 | 53 => 268 | 55 => 270 | 4 => 4 | 46 => 262 | 45 => 261 | 50 => 39 | 5 => 5 | 9 => 9 | 66 => 291 | 70 => 295 | 76 => 315 | 77 => 142 | n => n, fun | n => n⟩
theorem Ff : Go.Proofs.SlLaysF0.n6 Tryz.prog Ci := {
 mixed := by kernel_rfl,
 f6 := ⟨Tryz.f122.name, by decide, Tryz.func122.trans (aw some (by kernel_rfl))⟩,
 f14 := ⟨Tryz.f185.name, by decide, Tryz.func185.trans (aw some (by kernel_rfl))⟩,
 f15 := Tryz.func179.trans (aw some (by kernel_rfl)),
 f20 := ⟨Tryz.f230.name, by decide, Tryz.func230.trans (aw some (by kernel_rfl))⟩,
 f21 := ⟨Tryz.f231.name, by decide, Tryz.func231.trans (aw some (by kernel_rfl))⟩,
 f22 := ⟨Tryz.f232.name, by decide, Tryz.func232.trans (aw some (by kernel_rfl))⟩,
 f23 := ⟨Tryz.f233.name, by decide, Tryz.func233.trans (aw some (by kernel_rfl))⟩,
 f24 := ⟨Tryz.f234.name, by decide, Tryz.func234.trans (aw some (by kernel_rfl))⟩,
 f25 := ⟨Tryz.f235.name, by decide, Tryz.func235.trans (aw some (by kernel_rfl))⟩,
 f26 := ⟨Tryz.f236.name, by decide, Tryz.func236.trans (aw some (by kernel_rfl))⟩,
 f27 := ⟨Tryz.f237.name, by decide, Tryz.func237.trans (aw some (by kernel_rfl))⟩,
 f28 := Tryz.func225.trans (aw some (by kernel_rfl)),
 f29 := Tryz.func226.trans (aw some (by kernel_rfl)),
 f46 := ⟨Tryz.f269.name, by decide, Tryz.func269.trans (aw some (by kernel_rfl))⟩,
 f47 := Tryz.func256.trans (aw some (by kernel_rfl)),
 f48 := Tryz.func257.trans (aw some (by kernel_rfl)),
 f49 := ⟨Tryz.f270.name, by decide, Tryz.func270.trans (aw some (by kernel_rfl))⟩,
 f50 := ⟨Tryz.f271.name, by decide, Tryz.func271.trans (aw some (by kernel_rfl))⟩,
 f57 := ⟨Tryz.f295.name, by decide, Tryz.func295.trans (aw some (by kernel_rfl))⟩,
 t0 := dK,
 a0 := fu,
 z0 := eO,
 v0 := dY,
 t3 := fQ,
 a3 := Tryz.isAgg3,
 z3 := Tryz.sizeOf3,
 v3 := gd,
 t4 := ew,
 a4 := gi,
 z4 := fV,
 v4 := eF,
 t5 := fR,
 a5 := Tryz.isAgg5,
 z5 := Tryz.sizeOf5,
 v5 := gf,
 t9 := dt,
 a9 := eD,
 z9 := ek,
 v9 := dw,
 t22 := Tryz.underlying25,
 a22 := Tryz.isAgg25,
 z22 := Tryz.sizeOf25,
 v22 := Tryz.zeroValue25,
 t25 := Tryz.underlying119,
 a25 := Tryz.isAgg119,
 z25 := Tryz.sizeOf119,
 v25 := Tryz.zeroValue119,
 t39 := eV,
 a39 := Tryz.isAgg215,
 z39 := Tryz.sizeOf215,
 v39 := fw,
 t45 := eW,
 a45 := Tryz.isAgg261,
 z45 := Tryz.sizeOf261,
 v45 := fx,
 t46 := eX,
 a46 := Tryz.isAgg262,
 z46 := Tryz.sizeOf262,
 v46 := fy,
 t50 := fz,
 a50 := Tryz.isAgg39,
 z50 := Tryz.sizeOf39,
 v50 := fS,
 t53 := eY,
 a53 := Tryz.isAgg268,
 z53 := Tryz.sizeOf268,
 v53 := fC,
 t55 := eZ,
 a55 := Tryz.isAgg270,
 z55 := Tryz.sizeOf270,
 v55 := fD,
 t66 := fa,
 a66 := Tryz.isAgg291,
 z66 := Tryz.sizeOf291,
 v66 := fE,
 t70 := fb,
 a70 := Tryz.isAgg295,
 z70 := Tryz.sizeOf295,
 v70 := fF,
 t76 := fc,
 a76 := Tryz.isAgg315,
 z76 := Tryz.sizeOf315,
 v76 := fG,
 t77 := fe,
 a77 := Tryz.isAgg142,
 z77 := Tryz.sizeOf142,
 v77 := fH}
def BQ : Go.Shelf.Ren := ⟨fun | 6 => 182 | 8 => 179 | 9 => 229 | 19 => 225 | 20 => 226 | 21 => 260 | 22 => 261 | 23 => 262 | 24 => 263 | 25 => 264 | 26 => 265 | 27 => 266 | 28 => 267 | 29 => 268 | 36 => 291 | 31 => 256 | 32 => 257 | 37 => 292 | 38 => 293 | 39 => 294 | 41 => 300 | n => n, fun | 27 => 112 | 29 => 9 | 3 => 3 | 32 => 215 | 26 => 112 | 0 => 0 | 44 => 268 | 46 => 270 | 4 => 4 | 36 => 262 | 35 => 261 | 41 => 39 | 5 => 5 | 9 => 9 | 53 => 291 | 57 => 295 | 63 => 315 | 64 => 142 | n => n, fun | n => n⟩
theorem CD : Go.Proofs.SlLaysM.n6 Tryz.prog BQ := {
 mixed := by kernel_rfl,
 f6 := ⟨Tryz.f182.name, by decide, Tryz.func182.trans (aw some (by kernel_rfl))⟩,
 f8 := Tryz.func179.trans (aw some (by kernel_rfl)),
 f9 := ⟨Tryz.f229.name, by decide, Tryz.func229.trans (aw some (by kernel_rfl))⟩,
 f19 := Tryz.func225.trans (aw some (by kernel_rfl)),
 f20 := Tryz.func226.trans (aw some (by kernel_rfl)),
 f21 := ⟨Tryz.f260.name, by decide, Tryz.func260.trans (aw some (by kernel_rfl))⟩,
 f22 := ⟨Tryz.f261.name, by decide, Tryz.func261.trans (aw some (by kernel_rfl))⟩,
 f23 := ⟨Tryz.f262.name, by decide, Tryz.func262.trans (aw some (by kernel_rfl))⟩,
 f24 := ⟨Tryz.f263.name, by decide, Tryz.func263.trans (aw some (by kernel_rfl))⟩,
 f25 := ⟨Tryz.f264.name, by decide, Tryz.func264.trans (aw some (by kernel_rfl))⟩,
 f26 := ⟨Tryz.f265.name, by decide, Tryz.func265.trans (aw some (by kernel_rfl))⟩,
 f27 := ⟨Tryz.f266.name, by decide, Tryz.func266.trans (aw some (by kernel_rfl))⟩,
 f28 := ⟨Tryz.f267.name, by decide, Tryz.func267.trans (aw some (by kernel_rfl))⟩,
 f29 := ⟨Tryz.f268.name, by decide, Tryz.func268.trans (aw some (by kernel_rfl))⟩,
 f31 := Tryz.func256.trans (aw some (by kernel_rfl)),
 f32 := Tryz.func257.trans (aw some (by kernel_rfl)),
 f36 := ⟨Tryz.f291.name, by decide, Tryz.func291.trans (aw some (by kernel_rfl))⟩,
 f37 := ⟨Tryz.f292.name, by decide, Tryz.func292.trans (aw some (by kernel_rfl))⟩,
 f38 := ⟨Tryz.f293.name, by decide, Tryz.func293.trans (aw some (by kernel_rfl))⟩,
 f39 := ⟨Tryz.f294.name, by decide, Tryz.func294.trans (aw some (by kernel_rfl))⟩,
 f41 := ⟨Tryz.f300.name, by decide, Tryz.func300.trans (aw some (by kernel_rfl))⟩,
 t0 := dK,
 a0 := fu,
 z0 := eO,
 v0 := dY,
 t3 := fQ,
 a3 := Tryz.isAgg3,
 z3 := Tryz.sizeOf3,
 v3 := gd,
 t4 := ew,
 a4 := gi,
 z4 := fV,
 v4 := eF,
 t5 := fR,
 a5 := Tryz.isAgg5,
 z5 := Tryz.sizeOf5,
 v5 := gf,
 t9 := dt,
 a9 := eD,
 z9 := ek,
 v9 := dw,
 t26 := fg,
 a26 := Tryz.isAgg112,
 z26 := Tryz.sizeOf112,
 v26 := fI,
 t27 := fg,
 a27 := Tryz.isAgg112,
 z27 := Tryz.sizeOf112,
 v27 := fI,
 t29 := dt,
 a29 := eD,
 z29 := ek,
 v29 := dw,
 t32 := eV,
 a32 := Tryz.isAgg215,
 z32 := Tryz.sizeOf215,
 v32 := fw,
 t35 := eW,
 a35 := Tryz.isAgg261,
 z35 := Tryz.sizeOf261,
 v35 := fx,
 t36 := eX,
 a36 := Tryz.isAgg262,
 z36 := Tryz.sizeOf262,
 v36 := fy,
 t41 := fz,
 a41 := Tryz.isAgg39,
 z41 := Tryz.sizeOf39,
 v41 := fS,
 t44 := eY,
 a44 := Tryz.isAgg268,
 z44 := Tryz.sizeOf268,
 v44 := fC,
 t46 := eZ,
 a46 := Tryz.isAgg270,
 z46 := Tryz.sizeOf270,
 v46 := fD,
 t53 := fa,
 a53 := Tryz.isAgg291,
 z53 := Tryz.sizeOf291,
 v53 := fE,
 t57 := fb,
 a57 := Tryz.isAgg295,
 z57 := Tryz.sizeOf295,
 v57 := fF,
 t63 := fc,
 a63 := Tryz.isAgg315,
 z63 := Tryz.sizeOf315,
 v63 := fG,
 t64 := fe,
 a64 := Tryz.isAgg142,
 z64 := Tryz.sizeOf142,
 v64 := fH}
def Ec : Go.Shelf.Ren := ⟨fun | 7 => 120 | 10 => 183 | n => n, fun | 23 => 175 | 26 => 9 | 3 => 4 | 28 => 180 | 0 => 0 | 27 => 179 | 33 => 194 | 4 => 4 | n => n, fun | n => n⟩
theorem D9 : Go.Proofs.SlLaysZ.n7 Tryz.prog Ec := {
 mixed := by kernel_rfl,
 f7 := ⟨Tryz.f120.name, by decide, Tryz.func120.trans (aw some (by kernel_rfl))⟩,
 f10 := ⟨Tryz.f183.name, by decide, Tryz.func183.trans (aw some (by kernel_rfl))⟩,
 t0 := dK,
 a0 := fu,
 z0 := eO,
 v0 := dY,
 t4 := ew,
 a4 := gi,
 z4 := fV,
 v4 := eF,
 t23 := Tryz.underlying175,
 a23 := Tryz.isAgg175,
 z23 := Tryz.sizeOf175,
 v23 := Tryz.zeroValue175,
 t26 := dt,
 a26 := eD,
 z26 := ek,
 v26 := dw,
 t27 := Tryz.underlying179,
 a27 := Tryz.isAgg179,
 z27 := Tryz.sizeOf179,
 v27 := Tryz.zeroValue179,
 t28 := Tryz.underlying180,
 a28 := Tryz.isAgg180,
 z28 := Tryz.sizeOf180,
 v28 := Tryz.zeroValue180,
 t33 := Tryz.underlying194,
 a33 := Tryz.isAgg194,
 z33 := Tryz.sizeOf194,
 v33 := Tryz.zeroValue194}
def D3 : Go.Shelf.Ren := ⟨fun | 6 => 119 | 8 => 181 | 9 => 182 | 11 => 228 | 13 => 179 | 12 => 229 | 23 => 225 | 24 => 226 | 14 => 260 | 15 => 261 | 16 => 262 | 17 => 263 | 18 => 264 | 19 => 265 | 20 => 266 | 21 => 267 | 22 => 268 | 25 => 291 | 26 => 256 | 27 => 257 | 28 => 292 | 29 => 293 | 30 => 294 | 31 => 300 | n => n, fun | 26 => 9 | 28 => 180 | 24 => 112 | 0 => 0 | 3 => 3 | 37 => 215 | 48 => 268 | 50 => 270 | 4 => 4 | 40 => 262 | 39 => 261 | 45 => 39 | 5 => 5 | 9 => 9 | 51 => 291 | 55 => 295 | 57 => 315 | 58 => 142 | 33 => 194 | n => n, fun | n => n⟩
theorem El : Go.Proofs.SlLaysZ.n6 Tryz.prog D3 := {
 mixed := by kernel_rfl,
 f6 := ⟨Tryz.f119.name, by decide, Tryz.func119.trans (aw some (by kernel_rfl))⟩,
 f8 := ⟨Tryz.f181.name, by decide, Tryz.func181.trans (aw some (by kernel_rfl))⟩,
 f11 := ⟨Tryz.f228.name, by decide, Tryz.func228.trans (aw some (by kernel_rfl))⟩,
 t0 := dK,
 a0 := fu,
 z0 := eO,
 v0 := dY,
 t24 := fg,
 a24 := Tryz.isAgg112,
 z24 := Tryz.sizeOf112,
 v24 := fI,
 t26 := dt,
 a26 := eD,
 z26 := ek,
 v26 := dw,
 t28 := Tryz.underlying180,
 a28 := Tryz.isAgg180,
 z28 := Tryz.sizeOf180,
 v28 := Tryz.zeroValue180,
 i26 := by kernel_rfl}
end Go.Proofs.YtbnbdigcbldfhaaGreat
namespace Go.Proofs.YtbnbdigcbldfhaaGreat
open Go.IntKind renaming wrap → wi0
open Go.RowKit
set_option maxRecDepth 10000
noncomputable section
structure gl where
 gF : ByteArray
 gY : ByteArray
def gn (x : gl) : List Value := [.string x.gF, .string x.gY]
def gz (x y : gl) : Bool := (gX x.gF y.gF) && ((gX x.gY y.gY) && true)
theorem gB {x y : gl} : gz x y = true ↔ x = y := by
 cases x; cases y; simp [gz, iE]
theorem kP (x : gl) : (gn x).length = 2 := rfl
theorem kX (x : gl) : ∀ u ∈ gn x, u.oneCell' = true := by
 intro u hu
 simp only [gn, ak, cc, dV] at hu
 rcases hu with rfl | rfl <;> rfl
structure gm where
 Kind : Int
 Head : gl
 gP : ByteArray
 B : gl
 C : gl
 gZ : ByteArray
def gp (x : gm) : List Value := [.int .i64 x.Kind, .string x.Head.gF, .string x.Head.gY, .string x.gP, .string x.B.gF, .string x.B.gY, .string x.C.gF, .string x.C.gY, .string x.gZ]
def lU (x y : gm) : Bool := (x.Kind == y.Kind) && ((gz x.Head y.Head) && ((gX x.gP y.gP) && ((gz x.B y.B) && ((gz x.C y.C) && ((gX x.gZ y.gZ) && true)))))
theorem tq {x y : gm} : lU x y = true ↔ x = y := by
 cases x; cases y; simp [lU, iE, gB]
theorem ia (x : gm) : (gp x).length = 9 := rfl
theorem js (x : gm) : ∀ u ∈ gp x, u.oneCell' = true := by
 intro u hu
 simp only [gp, ak, cc, dV] at hu
 rcases hu with rfl | rfl | rfl | rfl | rfl | rfl | rfl | rfl | rfl <;> rfl
structure gr where
 gl : gl
 gP : ByteArray
def gG (x : gr) : List Value := [.string x.gl.gF, .string x.gl.gY, .string x.gP]
def iU (x y : gr) : Bool := (gz x.gl y.gl) && ((gX x.gP y.gP) && true)
theorem kN {x y : gr} : iU x y = true ↔ x = y := by
 cases x; cases y; simp [iU, iE, gB]
theorem kD (x : gr) : (gG x).length = 3 := rfl
theorem pB (x : gr) : ∀ u ∈ gG x, u.oneCell' = true := by
 intro u hu
 simp only [gG, ak, cc, dV] at hu
 rcases hu with rfl | rfl | rfl <;> rfl
def kd (a0 : ByteArray) (a : Int) : Option Int :=
 some (pF a0 a)
def mf (a0 : ByteArray) (a : Int) : Option Int :=
 ((kd a0 a).bind fun b => some b)
def om  : List Int → Option Bool
 | [] => some true
 | c :: a => ((mf (⟨#[97, 98, 99, 100, 101, 102, 103, 104, 105, 106, 107, 108, 109, 110, 111, 112, 113, 114, 115, 116, 117, 118, 119, 120, 121, 122, 48, 49, 50, 51, 52, 53, 54, 55, 56, 57, 45]⟩ : ByteArray) c).bind fun b => (if (decide (b < 0)) then some false else (om a)))
def tj (a0 : ByteArray) : Option Bool :=
 ((tQ a0).bind fun a => om a)
def lG (a0 : ByteArray) : Option Bool :=
 ((if (decide ((a0.size : Int) ≥ 1)) then some (decide ((a0.size : Int) ≤ 16)) else some false).bind fun x2 => ((if x2 then ((rM a0 0).bind fun a => ((mf (⟨#[97, 98, 99, 100, 101, 102, 103, 104, 105, 106, 107, 108, 109, 110, 111, 112, 113, 114, 115, 116, 117, 118, 119, 120, 121, 122]⟩ : ByteArray) (a.toNat : Int)).bind fun c => some (decide (c ≥ 0)))) else some false).bind fun d => ((if d then ((tj a0).bind fun b => some b) else some false).bind fun g => some g)))
def qa (a0 : List Int) : Option (List Int) :=
 ((jh 1 ([]) a0).bind fun a => some a)
def lH (a0 : gl) : Option Bool :=
 ((lG a0.gF).bind fun c => ((if c then ((lG a0.gY).bind fun a => some a) else some false).bind fun b => some b))
def lx (a0 a : ByteArray) : Option Int :=
 some (nP a0 a)
def ob (a0 a : ByteArray) : Option Int :=
 ((lx a0 a).bind fun b => some b)
def po  : List Int → Option Int
 | [] => some 0
 | a :: b => (if (a != 0) then some a else (po b))
def su (a0 : List Int) : Option Int :=
 po a0
def ou (a0 d : gl) : Option Int :=
 ((ob a0.gF d.gF).bind fun a => ((ob a0.gY d.gY).bind fun b => ((su ([a, b])).bind fun c => some c)))
def mC (a0 : gm) : Option Bool :=
 ((lH a0.Head).bind fun w => (((if (a0.Kind == 1) then ((if w then ((lG a0.gP).bind fun b => some b) else some false).bind fun n => some (Sum.inr (n, (⟨a0.Kind, a0.Head, a0.gP, (⟨zS, zS⟩ : gl), (⟨zS, zS⟩ : gl), zS⟩ : gm)))) else (if (a0.Kind == 2) then ((if w then ((lH a0.B).bind fun c => some c) else some false).bind fun o => some (Sum.inr (o, (⟨a0.Kind, a0.Head, zS, a0.B, (⟨zS, zS⟩ : gl), zS⟩ : gm)))) else (if (a0.Kind == 3) then ((if w then ((lH a0.B).bind fun g => some g) else some false).bind fun p => ((if p then some (gX a0.B.gF a0.Head.gF) else some false).bind fun q => ((if q then ((lG a0.gZ).bind fun d => some d) else some false).bind fun r => some (Sum.inr (r, (⟨a0.Kind, a0.Head, zS, a0.B, (⟨zS, zS⟩ : gl), a0.gZ⟩ : gm)))))) else (if (a0.Kind == 4) then ((if w then ((lH a0.B).bind fun j => some j) else some false).bind fun t => ((if t then ((lH a0.C).bind fun i => some i) else some false).bind fun u => ((if u then ((ou a0.B a0.C).bind fun h => some (decide (h < 0))) else some false).bind fun v => some (Sum.inr (v, (⟨a0.Kind, a0.Head, zS, a0.B, a0.C, zS⟩ : gm)))))) else some (Sum.inl false))))) : Option (Bool ⊕ (Bool × gm))).bind fun s => match s with | .inl a => some a | .inr (k, l) => ((if k then some (lU l a0) else some false).bind fun m => some m)))
def la  : Nat → Int → (List Int) → Option (Bool × (List Int))
 | 0, _, _ => none
 | g + 1, a, c => (if (decide (a ≥ 128)) then ((jh 1 c ([(IntKind.u8.wrap (BitVec.ofInt (IntKind.bits .u8) (IntKind.u8.wrap a) ||| BitVec.ofInt (IntKind.bits .u8) 128).toNat)])).bind fun d => (la g (Int.fdiv a (2 ^ min (Int.toNat 7) (IntKind.bits .i64))) d)) else ((jh 1 c ([(IntKind.u8.wrap a)])).bind fun b => some (true, b)))
def mc (a : List Int) (b : Int) : Option (Bool × (List Int)) :=
 (if (decide (b < 0)) then some (false, a) else la jj b a)
def pM (a b : List Int) : Option (Bool × (List Int)) :=
 (if (decide ((b.length : Int) > 2048)) then some (false, a) else ((mc a (b.length : Int)).bind fun d => ((jh 1 d.2 b).bind fun c => some (true, c))))
def nm (a : List Int) (h : ByteArray) : Option (Bool × (List Int)) :=
 ((lG h).bind fun i => (((if i then ((tQ h).bind fun d => ((pM a d).bind fun b => some (b.1, b.2))) else some (false, a)) : Option (Bool × (List Int))).bind fun (g, c) => some (g, c)))
def lF (a : List Int) (g : gl) : Option (Bool × (List Int)) :=
 ((lH g).bind fun k => (((if k then ((nm a g.gF).bind fun d => some (d.1, d.2)) else some (false, a)) : Option (Bool × (List Int))).bind fun (i, b) => (((if i then ((nm b g.gY).bind fun c => some (c.1, c.2)) else some (false, b)) : Option (Bool × (List Int))).bind fun (j, h) => some (j, h))))
def qe (a : List Int) : Option (List Int) :=
 ((qa a).bind fun b => some b)
def pr (a0 : gm) : Option (List Int) :=
 ((mC a0).bind fun l => (if (!l) then some [] else ((mc ([]) a0.Kind).bind fun m => ((lF m.2 a0.Head).bind fun a => (((if (a0.Kind == 1) then ((nm a.2 a0.gP).bind fun d => some d.2) else (if (a0.Kind == 2) then ((lF a.2 a0.B).bind fun g => some g.2) else (if (a0.Kind == 3) then ((lF a.2 a0.B).bind fun h => ((nm h.2 a0.gZ).bind fun i => some i.2)) else (if (a0.Kind == 4) then ((lF a.2 a0.B).bind fun j => ((lF j.2 a0.C).bind fun k => some k.2)) else some a.2)))) : Option (List Int)).bind fun b => ((qe b).bind fun c => some c))))))
def ma (a0 : List gm) : Option (List gm) :=
 ((jh 136 ([]) a0).bind fun a => some a)
def ki (f1 : gm → Option Bool) : List gm → Nat → Option Int
 | [], _ => some (-1)
 | c :: a, i35 => ((f1 c).bind fun b => (if b then some (i35 : Int) else (ki f1 a (i35 + 1))))
def nz (a0 : List gm) (f1 : gm → Option Bool) : Option Int :=
 ki f1 a0 0
def jy (f1 : gm → Option Bool) : Nat → (List gm) → Int → Int → Option (List gm)
 | 0, _, _, _ => none
 | n321 + 1, b, a, c => (if (decide (c < (b.length : Int))) then ((((jK b c).bind fun d => ((f1 d).bind fun h => (if (!h) then ((jK b a).bind fun j => some ((b.set (Int.toNat a) d), (wi0 .i64 (a + 1)))) else some (b, a)))) : Option ((List gm) × Int)).bind fun (g, i) => (jy f1 n321 g i (wi0 .i64 (c + 1)))) else ((nY (decide (0 ≤ a) && decide (a ≤ (b.length : Int)))).bind fun _ => ((nY (decide (0 ≤ a) && decide (a ≤ ((lI b (Int.toNat a) (⟨0, (⟨zS, zS⟩ : gl), zS, (⟨zS, zS⟩ : gl), (⟨zS, zS⟩ : gl), zS⟩ : gm)).length : Int)))).bind fun _ => some ((lI b (Int.toNat a) (⟨0, (⟨zS, zS⟩ : gl), zS, (⟨zS, zS⟩ : gl), (⟨zS, zS⟩ : gl), zS⟩ : gm)).take (Int.toNat a)))))
def lJ (a0 : List gm) (f1 : gm → Option Bool) : Option (List gm) :=
 ((nz a0 f1).bind fun a => (if (a == (-1)) then some a0 else jy f1 jj a0 a (wi0 .i64 (a + 1))))
def pY (a0 : gm) : Option Bool :=
 ((mC a0).bind fun a => some (!a))
def sZ (a0 a : List Int) : Option Int :=
 some (rr a0 a)
def ni (a0 d : gm) : Option Int :=
 ((pr a0).bind fun a => ((pr d).bind fun b => ((sZ a b).bind fun c => some c)))
def jQ (b : Int) : Nat → (List gm) → Int → Int → Option ((List gm) × Int)
 | 0, _, _, _ => none
 | h + 1, a, c, d => (if (decide (d < ((a.length - (Int.toNat b) : Nat) : Int))) then ((((jK (a.drop (Int.toNat b)) d).bind fun j => ((jK (a.drop (Int.toNat b)) (wi0 .i64 (d - 1))).bind fun k => (if (!(lU j k)) then ((jK (a.drop (Int.toNat b)) d).bind fun l => ((jK a c).bind fun m => some ((a.set (Int.toNat c) l), (wi0 .i64 (c + 1))))) else some (a, c)))) : Option ((List gm) × Int)).bind fun (g, i) => (jQ b h g i (wi0 .i64 (d + 1)))) else some (a, c))
def jR (a0 : List gm) : Nat → Int → Option (List gm)
 | 0, _ => none
 | d + 1, a => (if (decide (a < (a0.length : Int))) then ((jK a0 a).bind fun g => ((jK a0 (wi0 .i64 (a - 1))).bind fun h => (if (lU g h) then ((nY (decide (0 ≤ a) && decide (a ≤ (a0.length : Int)))).bind fun _ => ((jQ a jj a0 a 1).bind fun (c, b) => ((nY (decide (0 ≤ b) && decide (b ≤ (c.length : Int)))).bind fun _ => ((nY (decide (0 ≤ b) && decide (b ≤ ((lI c (Int.toNat b) (⟨0, (⟨zS, zS⟩ : gl), zS, (⟨zS, zS⟩ : gl), (⟨zS, zS⟩ : gl), zS⟩ : gm)).length : Int)))).bind fun _ => some ((lI c (Int.toNat b) (⟨0, (⟨zS, zS⟩ : gl), zS, (⟨zS, zS⟩ : gl), (⟨zS, zS⟩ : gl), zS⟩ : gm)).take (Int.toNat b)))))) else (jR a0 d (wi0 .i64 (a + 1)))))) else some a0)
def mK (a0 : List gm) : Option (List gm) :=
 (if (decide ((a0.length : Int) < 2)) then some a0 else jR a0 jj 1)
def mX (a0 : List gm) : Option (List gm) :=
 ((ma a0).bind fun d => ((lJ d (fun (x : gm) => pY x)).bind fun a => ((qy (fun (x : (gm × gm)) => ni x.1 x.2) a).bind fun b => ((mK b).bind fun c => some c))))
def lb (c : gm) : List gm → Nat → Option Int
 | [], _ => some (-1)
 | b :: a, i46 => (if (lU c b) then some (i46 : Int) else (lb c a (i46 + 1)))
def pc (a0 : List gm) (a : gm) : Option Int :=
 lb a a0 0
def nW (a0 : List gm) (a : gm) : Option Bool :=
 ((pc a0 a).bind fun b => some (decide (b ≥ 0)))
def sc (a0 : List gm) (a : gm) : Option Bool :=
 ((nW a0 a).bind fun b => some b)
def pw (a0 : gm) : Option (List gl) :=
 ((mC a0).bind fun g => (if (!g) then some [] else (((if (a0.Kind != 1) then ((jh 32 ([a0.Head]) ([a0.B])).bind fun d => some d) else some ([a0.Head])) : Option (List gl)).bind fun a => (((if (a0.Kind == 4) then ((jh 32 a ([a0.C])).bind fun c => some c) else some a) : Option (List gl)).bind fun b => some b))))
def jX (h : gm) (a : List (ByteArray × (List gm))) (d : List gm) : List gl → (List (gl × (List gm))) → Option ((List gm) × (List (gl × (List gm))) × (List (ByteArray × (List gm))))
 | [], b => (if (h.Kind == 3) then ((jh 136 ((gQ gX a h.gZ).getD []) ([h])).bind fun j => some (d, b, (iQ gX a h.gZ j))) else some (d, b, a))
 | c :: g, b => ((jh 136 ((gQ gz b c).getD []) ([h])).bind fun i => (jX h a d g (iQ gz b c i)))
def mT (h : List (gl × (List (ByteArray × Bool)))) (a : List gm) (c : List (gl × (List gm))) (b : List (ByteArray × (List gm))) (d : List gr) (k : Int) (i : gm) : Option ((List gm) × (List (gl × (List gm))) × (List (ByteArray × (List gm)))) :=
 ((jh 136 a ([i])).bind fun j => ((pw i).bind fun g => ((nY (decide (0 ≤ 1) && decide (1 ≤ (g.length : Int)))).bind fun _ => jX i b j (g.drop (Int.toNat 1)) c)))
def jJ (a : List (gl × (List (ByteArray × Bool)))) (d : List gm) (h : List (gl × (List gm))) (g : List (ByteArray × (List gm))) (b : List gr) (c : Int) (i : gl) (a2 : ByteArray) : Option ((List (gl × (List (ByteArray × Bool)))) × (List gr) × Int) :=
 (if (iW gX ((gQ gz a i).getD []) a2 false) then some (a, b, c) else (((if (gQ gz a i).isNone then ((wV gz a i ([])).bind fun j => some j) else some a) : Option (List (gl × (List (ByteArray × Bool))))).bind fun k => ((wR gz gX k i a2 true).bind fun l => ((jh 48 b ([(⟨i, a2⟩ : gr)])).bind fun m => some (l, m, (wi0 .i64 (c + 1)))))))
def kj (a0 : List (ByteArray × Bool)) : Option Unit :=
 some ()
def iS (a : List (gl × (List (ByteArray × Bool)))) (b : List gm) (g : List (gl × (List gm))) (c : List (ByteArray × (List gm))) (d : List gr) (i : Int) (j : gl) : Option (List ByteArray) :=
 ((kj ((gQ gz a j).getD [])).bind fun k => ((xj ((gQ gz a j).getD [])).bind fun h => some h))
def lh (a : List gm) (c : List (gl × (List gm))) (b : List (ByteArray × (List gm))) (a2 : gl) : List ByteArray → (List (gl × (List (ByteArray × Bool)))) → (List gr) → Int → Option ((List (gl × (List (ByteArray × Bool)))) × (List gr) × Int)
 | [], d, g, i => some (d, g, i)
 | k :: j, d, g, i => ((jJ d a c b g i a2 k).bind fun h => (lh a c b a2 j h.1 h.2.1 h.2.2))
def ny (g : List (gl × (List (ByteArray × Bool)))) (a : List gm) (d : List (gl × (List gm))) (b : List (ByteArray × (List gm))) (c : List gr) (h : Int) (i a2 : gl) : Option ((List (gl × (List (ByteArray × Bool)))) × (List gr) × Int) :=
 ((iS g a d b c h i).bind fun j => lh a d b a2 j g c h)
def me (a : List (gl × (List (ByteArray × Bool)))) (c : List gm) (g : List (gl × (List gm))) (d : List (ByteArray × (List gm))) (b : List gr) (h : Int) (i : gm) (a2 : gr) : Option ((List (gl × (List (ByteArray × Bool)))) × (List gr) × Int) :=
 (if (i.Kind == 2) then ((jJ a c g d b h i.Head a2.gP).bind fun l => some (l.1, l.2.1, l.2.2)) else (if (i.Kind == 3) then ((ny a c g d b h (⟨a2.gP, i.gZ⟩ : gl) i.Head).bind fun j => some (j.1, j.2.1, j.2.2)) else (if (i.Kind == 4) then ((if (iW gX ((gQ gz a i.B).getD []) a2.gP false) then some (iW gX ((gQ gz a i.C).getD []) a2.gP false) else some false).bind fun m => (if m then ((jJ a c g d b h i.Head a2.gP).bind fun k => some (k.1, k.2.1, k.2.2)) else some (a, b, h))) else some (a, b, h))))
def kH (a : List gm) (c : List (gl × (List gm))) (b : List (ByteArray × (List gm))) (l : gm) : List ByteArray → (List (gl × (List (ByteArray × Bool)))) → (List gr) → Int → Option ((List (gl × (List (ByteArray × Bool)))) × (List gr) × Int)
 | [], d, g, i => some (d, g, i)
 | k :: j, d, g, i => ((me d a c b g i l (⟨l.B, k⟩ : gr)).bind fun h => (kH a c b l j h.1 h.2.1 h.2.2))
def mJ (g : List (gl × (List (ByteArray × Bool)))) (a : List gm) (d : List (gl × (List gm))) (b : List (ByteArray × (List gm))) (c : List gr) (h : Int) (i : gm) : Option ((List (gl × (List (ByteArray × Bool)))) × (List gr) × Int) :=
 (if (i.Kind == 1) then ((jJ g a d b c h i.Head i.gP).bind fun k => some (k.1, k.2.1, k.2.2)) else ((iS g a d b c h i.B).bind fun j => kH a d b i j g c h))
def jN (h : gr) (a : List gm) (c : List (gl × (List gm))) (b : List (ByteArray × (List gm))) : List gm → (List (gl × (List (ByteArray × Bool)))) → (List gr) → Int → Option ((List (gl × (List (ByteArray × Bool)))) × (List gr) × Int)
 | [], d, g, i => some (d, g, i)
 | l :: k, d, g, i => (if (iW gX ((gQ gz d l.B).getD []) h.gl.gF false) then ((jJ d a c b g i l.Head h.gP).bind fun j => (jN h a c b k j.1 j.2.1 j.2.2)) else (jN h a c b k d g i))
def kB (a : List gm) (c : List (gl × (List gm))) (b : List (ByteArray × (List gm))) (j : gr) : List gm → (List (gl × (List (ByteArray × Bool)))) → (List gr) → Int → Option ((List (gl × (List (ByteArray × Bool)))) × (List gr) × Int)
 | [], d, g, i => some (d, g, i)
 | l :: k, d, g, i => ((me d a c b g i l j).bind fun h => (kB a c b j k h.1 h.2.1 h.2.2))
def jm (c : List gm) (b : List (gl × (List gm))) (a : List (ByteArray × (List gm))) : Nat → (List (gl × (List (ByteArray × Bool)))) → (List gr) → Int → Option ((List (gl × (List (ByteArray × Bool)))) × (List gr) × Int)
 | 0, _, _, _ => none
 | n + 1, h, d, i => (if (decide ((d.length : Int) > 0)) then ((jK d 0).bind fun g => ((nY (decide (0 ≤ 1) && decide (1 ≤ (d.length : Int)))).bind fun _ => ((kB c b a g ((gQ gz b g.gl).getD []) h (d.drop (Int.toNat 1)) i).bind fun (j, k, o) => ((jN g c b a ((gQ gX a g.gl.gY).getD []) j k o).bind fun (l, m, p) => (jm c b a n l m p))))) else some (h, d, i))
def nV (g : List (gl × (List (ByteArray × Bool)))) (a : List gm) (d : List (gl × (List gm))) (b : List (ByteArray × (List gm))) (c : List gr) (h : Int) : Option ((List (gl × (List (ByteArray × Bool)))) × (List gr) × Int) :=
 jm a d b jj g c h
def jL (l : Int) : List gm → (List (gl × (List (ByteArray × Bool)))) → (List gm) → (List (gl × (List gm))) → (List (ByteArray × (List gm))) → (List gr) → Int → Option (Int × (List (gl × (List (ByteArray × Bool)))) × (List gm) × (List (gl × (List gm))) × (List (ByteArray × (List gm))) × (List gr) × Int)
 | [], c, a, d, g, h, i => ((nV c a d g h i).bind fun j => some ((wi0 .i64 (j.2.2 - l)), j.1, a, d, g, j.2.1, j.2.2))
 | k :: n, c, a, d, g, h, i => ((mC k).bind fun o => ((if o then ((sc a k).bind fun p => some (!p)) else some false).bind fun q => (if q then ((mT c a d g h i k).bind fun b => ((mJ c b.1 b.2.1 b.2.2 h i k).bind fun m => (jL l n m.1 b.1 b.2.1 b.2.2 m.2.1 m.2.2))) else (jL l n c a d g h i))))
def nx (g : List (gl × (List (ByteArray × Bool)))) (a : List gm) (d : List (gl × (List gm))) (b : List (ByteArray × (List gm))) (c : List gr) (h : Int) (i : List gm) : Option (Int × (List (gl × (List (ByteArray × Bool)))) × (List gm) × (List (gl × (List gm))) × (List (ByteArray × (List gm))) × (List gr) × Int) :=
 jL h i g a d b c h
def rX (a0 : List gm) : Option ((List (gl × (List (ByteArray × Bool)))) × (List gm) × (List (gl × (List gm))) × (List (ByteArray × (List gm))) × (List gr) × Int) :=
 ((nx ([]) ([]) ([]) ([]) ([]) 0 a0).bind fun a => some (a.2.1, a.2.2.1, a.2.2.2.1, a.2.2.2.2.1, a.2.2.2.2.2.1, a.2.2.2.2.2.2))
def lu  : List gm → Int → Option Int
 | [], b => some b
 | a :: c, b => (lu c (wi0 .i64 (b + (wi0 .i64 ((wi0 .i64 ((wi0 .i64 ((wi0 .i64 ((wi0 .i64 ((wi0 .i64 ((wi0 .i64 ((wi0 .i64 (20 + (a.Head.gF.size : Int))) + (a.Head.gY.size : Int))) + (a.gP.size : Int))) + (a.B.gF.size : Int))) + (a.B.gY.size : Int))) + (a.C.gF.size : Int))) + (a.C.gY.size : Int))) + (a.gZ.size : Int))))))
def rI (a0 : List gm) : Option Int :=
 lu a0 0
def lm (a0 : ByteArray) : Nat → Int → Option Bool
 | 0, _ => none
 | c + 1, b => (if (decide (b < (a0.size : Int))) then ((rM a0 b).bind fun a => ((if (decide ((a.toNat : Int) < 97)) then some true else some (decide ((a.toNat : Int) > 122))).bind fun d => ((if d then ((if (decide ((a.toNat : Int) < 48)) then some true else some (decide ((a.toNat : Int) > 57))).bind fun i => some i) else some false).bind fun g => ((if g then some ((a.toNat : Int) != 45) else some false).bind fun h => (if h then some false else (lm a0 c (wi0 .i64 (b + 1)))))))) else some true)
def lV (a0 : ByteArray) : Option Bool :=
 ((if (gX a0 zS) then some true else some (decide ((a0.size : Int) > 16))).bind fun x2 => ((if x2 then some true else ((rM a0 0).bind fun b => some (decide ((b.toNat : Int) < 97)))).bind fun c => ((if c then some true else ((rM a0 0).bind fun a => some (decide ((a.toNat : Int) > 122)))).bind fun d => (if d then some false else lm a0 jj 0))))
def mM (a0 : gl) : Option Bool :=
 ((lV a0.gF).bind fun c => ((if c then ((lV a0.gY).bind fun a => some a) else some false).bind fun b => some b))
def nv (a0 a : gl) : Option Bool :=
 ((if (kL a0.gF a.gF) then some true else ((if (gX a0.gF a.gF) then some (kL a0.gY a.gY) else some false).bind fun c => some c)).bind fun b => some b)
def nF (a0 : gm) : Option Bool :=
 ((mM a0.Head).bind fun r => (if (!r) then some false else (if (a0.Kind == 1) then ((lV a0.gP).bind fun h => ((if h then some (gz a0.B (⟨zS, zS⟩ : gl)) else some false).bind fun j => ((if j then some (gz a0.C (⟨zS, zS⟩ : gl)) else some false).bind fun k => ((if k then some (gX a0.gZ zS) else some false).bind fun l => some l)))) else ((if (!(gX a0.gP zS)) then some true else ((mM a0.B).bind fun c => some (!c))).bind fun m => (if m then some false else (if (a0.Kind == 2) then ((if (gz a0.C (⟨zS, zS⟩ : gl)) then some (gX a0.gZ zS) else some false).bind fun n => some n) else (if (a0.Kind == 3) then ((if (gz a0.C (⟨zS, zS⟩ : gl)) then some (gX a0.B.gF a0.Head.gF) else some false).bind fun o => ((if o then ((lV a0.gZ).bind fun i => some i) else some false).bind fun p => some p)) else ((if (a0.Kind == 4) then some (gX a0.gZ zS) else some false).bind fun q => ((if q then ((mM a0.C).bind fun b => some b) else some false).bind fun d => ((if d then ((nv a0.B a0.C).bind fun a => some a) else some false).bind fun g => some g))))))))))
def mQ  : Nat → Int → ByteArray → Option ByteArray
 | 0, _, _ => none
 | n45 + 1, a, b => (if (decide (a ≥ 128)) then ((qS b (uQ ([(IntKind.u8.wrap (wi0 .i64 (128 + (Int.tmod a 128))))]))).bind fun c => (mQ n45 (wi0 .i64 (Int.tdiv a 128)) c)) else ((qS b (uQ ([(IntKind.u8.wrap a)]))).bind fun d => some d))
def oz (a0 : Int) : Option ByteArray :=
 mQ jj a0 zS
def nq (a0 : ByteArray) : Option ByteArray :=
 ((oz (a0.size : Int)).bind fun a => ((qS a a0).bind fun b => some b))
def nG (a0 : gl) : Option ByteArray :=
 ((nq a0.gF).bind fun a => ((nq a0.gY).bind fun b => ((qS a b).bind fun c => some c)))
def rH (a0 : gm) : Option ByteArray :=
 ((oz a0.Kind).bind fun d => ((nG a0.Head).bind fun g => ((qS d g).bind fun a => (if (a0.Kind == 1) then ((nq a0.gP).bind fun h => ((qS a h).bind fun l => some l)) else ((nG a0.B).bind fun i => ((qS a i).bind fun b => (((if (a0.Kind == 3) then ((nq a0.gZ).bind fun k => ((qS b k).bind fun n => some n)) else some b) : Option ByteArray).bind fun c => (((if (a0.Kind == 4) then ((nG a0.C).bind fun j => ((qS c j).bind fun m => some m)) else some c) : Option ByteArray).bind fun o => some o))))))))
def oQ (a0 : gm) : Option ByteArray :=
 ((nF a0).bind fun a => (if (!a) then some zS else ((rH a0).bind fun b => some b)))
def mF (a0 c : gm) : Option Int :=
 ((oQ a0).bind fun a => ((oQ c).bind fun b => (if (kL a b) then some (-1) else (if (!(kL a b || gX a b)) then some 1 else some 0))))
def mr (a : List gm) : List gm → Bool → gm → Option (Bool × gm)
 | [], c, d => some (c, d)
 | b :: g, c, d => ((nF b).bind fun h => ((if h then ((if ((a.length : Int) == 0) then some true else ((jK a (wi0 .i64 ((a.length : Int) - 1))).bind fun o => ((mF o b).bind fun j => some (decide (j < 0))))).bind fun n => some n) else some false).bind fun k => ((if k then ((if (!c) then some true else ((mF b d).bind fun i => some (decide (i < 0)))).bind fun m => some m) else some false).bind fun l => (if l then (mr a g true b) else (mr a g c d)))))
def nf (a0 : List gm) : Nat → (List gm) → Option (List gm)
 | 0, _ => none
 | c + 1, a => ((mr a a0 false (⟨0, (⟨zS, zS⟩ : gl), zS, (⟨zS, zS⟩ : gl), (⟨zS, zS⟩ : gl), zS⟩ : gm)).bind fun (d, g) => (if (!d) then some a else ((jh 136 a ([g])).bind fun b => (nf a0 c b))))
def lD (a0 : List gm) : Option (List gm) :=
 nf a0 jj ([])
def mj (a : List ByteArray) : List ByteArray → ByteArray → Option ByteArray
 | [], c => some c
 | b :: d, c => ((lV b).bind fun h => ((if h then ((if ((a.length : Int) == 0) then some true else ((jK a (wi0 .i64 ((a.length : Int) - 1))).bind fun g => some (!(kL b g || gX b g)))).bind fun l => some l) else some false).bind fun i => ((if i then ((if (gX c zS) then some true else some (kL b c)).bind fun k => some k) else some false).bind fun j => (if j then (mj a d b) else (mj a d c)))))
def nj (a0 : List ByteArray) : Nat → (List ByteArray) → Option (List ByteArray)
 | 0, _ => none
 | d + 1, a => ((mj a a0 zS).bind fun b => (if (gX b zS) then some a else ((jh 16 a ([b])).bind fun c => (nj a0 d c))))
def qY (a0 : List ByteArray) : Option (List ByteArray) :=
 nj a0 jj ([])
def mq  : List gm → (List ByteArray) → Option (List ByteArray)
 | [], b => ((qY b).bind fun d => some d)
 | a :: g, b => ((jh 16 b ([a.gP, a.Head.gF, a.B.gF, a.C.gF])).bind fun c => (mq g c))
def nE (a0 : List gm) : Option (List ByteArray) :=
 mq a0 ([])
def oO (d : gl) (a2 : ByteArray) : List gr → Option Bool
 | [] => some false
 | b :: c => ((if (gz b.gl d) then some (gX b.gP a2) else some false).bind fun a => (if a then some true else (oO d a2 c)))
def lO (a0 : List gr) (a : gl) (a2 : ByteArray) : Option Bool :=
 oO a a2 a0
def nQ (a0 : List gr) (h : gm) (a3 : ByteArray) : List ByteArray → Option Bool
 | [] => some false
 | a :: b => ((lO a0 h.B a).bind fun c => ((if c then ((lO a0 (⟨a, h.gZ⟩ : gl) a3).bind fun d => some d) else some false).bind fun g => (if g then some true else (nQ a0 h a3 b))))
def oq (a0 : List gr) (a : gm) (a2 : List ByteArray) (a3 : ByteArray) : Option Bool :=
 (if (a.Kind == 1) then some (gX a.gP a3) else (if (a.Kind == 2) then ((lO a0 a.B a3).bind fun d => some d) else (if (a.Kind == 4) then ((lO a0 a.B a3).bind fun g => ((if g then ((lO a0 a.C a3).bind fun b => some b) else some false).bind fun c => some c)) else nQ a0 a a3 a2)))
def nk (a0 a : gr) : Option Bool :=
 ((nv a0.gl a.gl).bind fun d => ((if d then some true else ((if (gz a0.gl a.gl) then some (kL a0.gP a.gP) else some false).bind fun c => some c)).bind fun b => some b))
def kv (b a0 : List gr) : List gr → Nat → Int → Option Int
 | [], _, a => some a
 | g :: d, c, a => ((if ((b.length : Int) == 0) then some true else ((jK b (wi0 .i64 ((b.length : Int) - 1))).bind fun n => ((nk n g).bind fun i => some i))).bind fun j => ((if j then ((if (decide (a < 0)) then some true else ((jK a0 a).bind fun m => ((nk g m).bind fun h => some h))).bind fun l => some l) else some false).bind fun k => (if k then (kv b a0 d (c + 1) (c : Int)) else (kv b a0 d (c + 1) a))))
def kq (a0 : List gr) : List gr → (List gr) → Option (List gr)
 | [], a => some a
 | h :: c, a => ((kv a a0 a0 0 (-1)).bind fun b => (if (decide (b ≥ 0)) then ((jK a0 b).bind fun g => ((jh 48 a ([g])).bind fun d => (kq a0 c d))) else (kq a0 c a)))
def qO (a0 : List gr) : Option (List gr) :=
 kq a0 a0 ([])
def nK (b : gm) (l : List ByteArray) : List ByteArray → (List gr) → Bool → Option ((List gr) × Bool)
 | [], a, d => some (a, d)
 | c :: g, a, d => ((lO a b.Head c).bind fun i => ((if (!i) then ((oq a b l c).bind fun j => some j) else some false).bind fun k => (if k then ((jh 48 a ([(⟨b.Head, c⟩ : gr)])).bind fun h => (nK b l g h true)) else (nK b l g a d))))
def oS (i : List ByteArray) : List gm → (List gr) → Bool → Option ((List gr) × Bool)
 | [], a, b => some (a, b)
 | g :: c, a, b => ((nK g i i a b).bind fun (d, h) => (oS i c d h))
def nJ (h : List ByteArray) (i : List gm) : Nat → (List gr) → Option (List gr)
 | 0, _ => none
 | b + 1, g => ((oS h i g false).bind fun (a, d) => (if (!d) then ((qO a).bind fun c => some c) else (nJ h i b a)))
def rV (a0 : List gm) : Option (List gr) :=
 ((lD a0).bind fun b => ((nE b).bind fun a => nJ a b jj ([])))
def jF (b : Int) : Nat → (List ByteArray) → Int → Int → Option ((List ByteArray) × Int)
 | 0, _, _, _ => none
 | h + 1, a, c, d => (if (decide (d < ((a.length - (Int.toNat b) : Nat) : Int))) then ((((jK (a.drop (Int.toNat b)) d).bind fun j => ((jK (a.drop (Int.toNat b)) (wi0 .i64 (d - 1))).bind fun k => (if (!(gX j k)) then ((jK (a.drop (Int.toNat b)) d).bind fun l => ((jK a c).bind fun m => some ((a.set (Int.toNat c) l), (wi0 .i64 (c + 1))))) else some (a, c)))) : Option ((List ByteArray) × Int)).bind fun (g, i) => (jF b h g i (wi0 .i64 (d + 1)))) else some (a, c))
def jE (a0 : List ByteArray) : Nat → Int → Option (List ByteArray)
 | 0, _ => none
 | d + 1, a => (if (decide (a < (a0.length : Int))) then ((jK a0 a).bind fun g => ((jK a0 (wi0 .i64 (a - 1))).bind fun h => (if (gX g h) then ((nY (decide (0 ≤ a) && decide (a ≤ (a0.length : Int)))).bind fun _ => ((jF a jj a0 a 1).bind fun (c, b) => ((nY (decide (0 ≤ b) && decide (b ≤ (c.length : Int)))).bind fun _ => ((nY (decide (0 ≤ b) && decide (b ≤ ((lI c (Int.toNat b) zS).length : Int)))).bind fun _ => some ((lI c (Int.toNat b) zS).take (Int.toNat b)))))) else (jE a0 d (wi0 .i64 (a + 1)))))) else some a0)
def kR (a0 : List ByteArray) : Option (List ByteArray) :=
 (if (decide ((a0.length : Int) < 2)) then some a0 else jE a0 jj 1)
def mN  : List ByteArray → (List ByteArray) → Option (List ByteArray)
 | [], a => ((vQ a).bind fun g => ((kR g).bind fun h => some h))
 | i :: b, a => ((lG i).bind fun d => (if d then ((jh 16 a ([i])).bind fun c => (mN b c)) else (mN b a)))
def pC (a0 : List ByteArray) : Option (List ByteArray) :=
 mN a0 ([])
def jP (f1 : ByteArray → Option Bool) : List ByteArray → Nat → Option Int
 | [], _ => some (-1)
 | c :: a, i35 => ((f1 c).bind fun b => (if b then some (i35 : Int) else (jP f1 a (i35 + 1))))
def mW (a0 : List ByteArray) (f1 : ByteArray → Option Bool) : Option Int :=
 jP f1 a0 0
def mn (a0 : List ByteArray) (f1 : ByteArray → Option Bool) : Option Bool :=
 ((mW a0 f1).bind fun a => some (decide (a ≥ 0)))
def mP (a0 : ByteArray) (a : (gl × ByteArray) → Option Bool) (c1 : gm) (c2 : ByteArray) : Option Bool :=
 ((a (c1.B, a0)).bind fun d => ((if d then ((a ((⟨a0, c1.gZ⟩ : gl), c2)).bind fun b => some b) else some false).bind fun c => some c))
def pD (a0 : gm) (f1 : (gl × ByteArray) → Option Bool) (a2 : List ByteArray) (a3 : ByteArray) : Option Bool :=
 (if (a0.Kind == 1) then some (gX a0.gP a3) else (if (a0.Kind == 2) then ((f1 (a0.B, a3)).bind fun a => some a) else (if (a0.Kind == 4) then ((f1 (a0.B, a3)).bind fun b => ((if b then ((f1 (a0.C, a3)).bind fun c => some c) else some false).bind fun g => some g)) else ((mn a2 (fun (x : ByteArray) => mP x f1 a0 a3)).bind fun d => some d))))
def lo (a0 : gm) (f1 : (gl × ByteArray) → Option Bool) (d : List ByteArray) : List ByteArray → (List gr) → Option (List gr)
 | [], a => some a
 | c :: b, a => ((pD a0 f1 d c).bind fun h => (if h then ((jh 48 a ([(⟨a0.Head, c⟩ : gr)])).bind fun g => (lo a0 f1 d b g)) else (lo a0 f1 d b a)))
def pT (a0 : gm) (f1 : (gl × ByteArray) → Option Bool) (a2 : List ByteArray) : Option (List gr) :=
 ((mC a0).bind fun c => ((if (!c) then some true else some false).bind fun d => (if d then some [] else ((pC a2).bind fun a => (((if (a0.Kind == 1) then some ([a0.gP]) else some a) : Option (List ByteArray)).bind fun b => lo a0 f1 a b ([]))))))
def mh (a : List gl) : List gl → Bool → gl → Option (Bool × gl)
 | [], c, d => some (c, d)
 | b :: g, c, d => ((mM b).bind fun h => ((if h then ((if ((a.length : Int) == 0) then some true else ((jK a (wi0 .i64 ((a.length : Int) - 1))).bind fun o => ((nv o b).bind fun j => some j))).bind fun n => some n) else some false).bind fun k => ((if k then ((if (!c) then some true else ((nv b d).bind fun i => some i)).bind fun m => some m) else some false).bind fun l => (if l then (mh a g true b) else (mh a g c d)))))
def nh (a0 : List gl) : Nat → (List gl) → Option (List gl)
 | 0, _ => none
 | c + 1, a => ((mh a a0 false (⟨zS, zS⟩ : gl)).bind fun (d, g) => (if (!d) then some a else ((jh 32 a ([g])).bind fun b => (nh a0 c b))))
def tg (a0 : List gl) : Option (List gl) :=
 nh a0 jj ([])
def nN (d : List gl) : List gl → Nat → Option Bool
 | [], _ => some true
 | c :: b, i90 => ((jK d (i90 : Int)).bind fun a => (if (!(gz c a)) then some false else (nN d b (i90 + 1))))
def qF (a0 a : List gl) : Option Bool :=
 (if ((a0.length : Int) != (a.length : Int)) then some false else nN a a0 0)
def kJ (g : gl) : List gr → (List ByteArray) → Option (List ByteArray)
 | [], a => some a
 | d :: b, a => (if (gz d.gl g) then ((jh 16 a ([d.gP])).bind fun c => (kJ g b c)) else (kJ g b a))
def mG (a0 : List gr) (a : gl) : Option (List ByteArray) :=
 kJ a a0 ([])
structure gx where
 gl : gl
 ke : Int
 jg : Int
 oI : Int
def gw (x : gx) : List Value := [.string x.gl.gF, .string x.gl.gY, .int .i64 x.ke, .int .i64 x.jg, .int .i64 x.oI]
def pp (x y : gx) : Bool := (gz x.gl y.gl) && ((x.ke == y.ke) && ((x.jg == y.jg) && ((x.oI == y.oI) && true)))
theorem pV {x y : gx} : pp x y = true ↔ x = y := by
 cases x; cases y; simp [pp, iE, gB]
theorem kV (x : gx) : (gw x).length = 5 := rfl
theorem jO (x : gx) : ∀ u ∈ gw x, u.oneCell' = true := by
 intro u hu
 simp only [gw, ak, cc, dV] at hu
 rcases hu with rfl | rfl | rfl | rfl | rfl <;> rfl
def jr (a0 : List (gl × gx)) : Option Unit :=
 some ()
def iR (a0 a : gx) : Option Int :=
 ((ou a0.gl a.gl).bind fun b => some b)
def jW (c : ((List (gl × (List (ByteArray × Bool)))) × (List gm) × (List (gl × (List gm))) × (List (ByteArray × (List gm))) × (List gr) × Int)) : List gl → Nat → (List (gl × gx)) → Option (List (gl × gx))
 | [], _, b => some b
 | a :: h, g, b => (((if ((g : Int) == 0) then some (⟨a, (wi0 .i64 (((iW gz b a (⟨(⟨zS, zS⟩ : gl), 0, 0, 0⟩ : gx)).ke) + 1)), (iW gz b a (⟨(⟨zS, zS⟩ : gl), 0, 0, 0⟩ : gx)).jg, (iW gz b a (⟨(⟨zS, zS⟩ : gl), 0, 0, 0⟩ : gx)).oI⟩ : gx) else some (⟨a, (iW gz b a (⟨(⟨zS, zS⟩ : gl), 0, 0, 0⟩ : gx)).ke, (wi0 .i64 (((iW gz b a (⟨(⟨zS, zS⟩ : gl), 0, 0, 0⟩ : gx)).jg) + 1)), (iW gz b a (⟨(⟨zS, zS⟩ : gl), 0, 0, 0⟩ : gx)).oI⟩ : gx)) : Option gx).bind fun d => ((iS c.1 c.2.1 c.2.2.1 c.2.2.2.1 c.2.2.2.2.1 c.2.2.2.2.2 a).bind fun i => (jW c h (g + 1) (iQ gz b a (⟨d.gl, d.ke, d.jg, (i.length : Int)⟩ : gx)))))
def kK (i : ((List (gl × (List (ByteArray × Bool)))) × (List gm) × (List (gl × (List gm))) × (List (ByteArray × (List gm))) × (List gr) × Int)) : List gm → (List (gl × gx)) → Option (List gx)
 | [], a => ((jr a).bind fun j => ((vN 56 (fun (x : (gx × gx)) => iR x.1 x.2) a).bind fun g => some g))
 | h :: b, a => ((pw h).bind fun d => ((jW i d 0 a).bind fun c => (kK i b c)))
def jT (a0 : List gm) : Option (List gx) :=
 ((mX a0).bind fun b => ((rX a0).bind fun a => kK a b ([])))
def kW  : List gx → gx → Option (gx × Bool)
 | [], a => some (a, true)
 | c :: b, a => (if (decide (c.jg > a.jg)) then (kW b c) else (kW b a))
def nr (a0 : List gm) : Option (gx × Bool) :=
 ((jT a0).bind fun a => (if ((a.length : Int) == 0) then some ((⟨(⟨zS, zS⟩ : gl), 0, 0, 0⟩ : gx), false) else ((jK a 0).bind fun b => ((nY (decide (0 ≤ 1) && decide (1 ≤ (a.length : Int)))).bind fun _ => kW (a.drop (Int.toNat 1)) b))))
def mo  : List gm → (List ByteArray) → Option (List ByteArray)
 | [], b => ((pC b).bind fun d => some d)
 | a :: g, b => ((jh 16 b ([a.gP, a.Head.gF, a.B.gF, a.C.gF])).bind fun c => (mo g c))
def rE (a0 : List gm) : Option (List ByteArray) :=
 mo a0 ([])
def oJ (a0 : gl) (a : ByteArray) (b : List (gr × Int)) : Option Bool :=
 some ((gQ iU b (⟨a0, a⟩ : gr)).isSome)
def ms (b : Int) : List gr → (List (gr × Int)) → Option (List (gr × Int))
 | [], a => some a
 | d :: c, a => (if (!((gQ iU a d).isSome)) then (ms b c (iQ iU a d b)) else (ms b c a))
def nw (b : List (gr × Int)) (j : List ByteArray) (c : Int) : List gm → (List (gr × Int)) → Option (List (gr × Int))
 | [], a => some a
 | i :: d, a => ((pT i (fun (x : (gl × ByteArray)) => oJ x.1 x.2 b) j).bind fun h => ((ms c h a).bind fun g => (nw b j c d g)))
def mg (g : List ByteArray) (h : List gm) : Nat → (List (gr × Int)) → Int → Option ((List (gr × Int)) × Int)
 | 0, _, _ => none
 | d + 1, a, c => ((nw a g c h a).bind fun b => (if ((b.length : Int) == (a.length : Int)) then some (b, c) else (mg g h d b (wi0 .i64 (c + 1)))))
def nI (a0 : List gm) : Option ((List (gr × Int)) × Int) :=
 ((mX a0).bind fun c => ((mX a0).bind fun a => ((rE a).bind fun b => mg b c jj ([]) 0)))
def sB (a0 : List gm) (a : gr) : Option (Int × Bool) :=
 ((nI a0).bind fun b => some ((iW iU b.1 a 0), (gQ iU b.1 a).isSome))
def sA (a0 : List gm) : Option Int :=
 ((nI a0).bind fun a => some a.2)
def kx (c : List (gl × Int)) : List gx → (List gl) → Option (List gl)
 | [], b => some b
 | a :: d, b => ((if (decide (a.ke > 0)) then some (a.jg == 0) else some false).bind fun h => ((if h then some ((iW gz c a.gl 0) == a.ke) else some false).bind fun i => (if i then ((jh 32 b ([a.gl])).bind fun g => (kx c d g)) else (kx c d b))))
def jv (a0 : List gm) : List gm → (List (gl × Int)) → Option (List gl)
 | [], a => ((jT a0).bind fun g => ((kx a g ([])).bind fun d => some d))
 | b :: c, a => (if (b.Kind == 1) then (jv a0 c (iQ gz a b.Head (wi0 .i64 ((iW gz a b.Head 0) + 1)))) else (jv a0 c a))
def kI (a0 : List gm) : Option (List gl) :=
 ((mX a0).bind fun a => jv a0 a ([]))
def oP  : Option Bool :=
 ((jT ([(⟨2, (⟨(⟨#[97]⟩ : ByteArray), (⟨#[114]⟩ : ByteArray)⟩ : gl), zS, (⟨(⟨#[98]⟩ : ByteArray), (⟨#[115]⟩ : ByteArray)⟩ : gl), (⟨zS, zS⟩ : gl), zS⟩ : gm), (⟨1, (⟨(⟨#[98]⟩ : ByteArray), (⟨#[115]⟩ : ByteArray)⟩ : gl), (⟨#[100]⟩ : ByteArray), (⟨zS, zS⟩ : gl), (⟨zS, zS⟩ : gl), zS⟩ : gm)])).bind fun q => ((nr ([(⟨2, (⟨(⟨#[97]⟩ : ByteArray), (⟨#[114]⟩ : ByteArray)⟩ : gl), zS, (⟨(⟨#[98]⟩ : ByteArray), (⟨#[115]⟩ : ByteArray)⟩ : gl), (⟨zS, zS⟩ : gl), zS⟩ : gm), (⟨1, (⟨(⟨#[98]⟩ : ByteArray), (⟨#[115]⟩ : ByteArray)⟩ : gl), (⟨#[100]⟩ : ByteArray), (⟨zS, zS⟩ : gl), (⟨zS, zS⟩ : gl), zS⟩ : gm)])).bind fun a => ((sB ([(⟨2, (⟨(⟨#[97]⟩ : ByteArray), (⟨#[114]⟩ : ByteArray)⟩ : gl), zS, (⟨(⟨#[98]⟩ : ByteArray), (⟨#[115]⟩ : ByteArray)⟩ : gl), (⟨zS, zS⟩ : gl), zS⟩ : gm), (⟨1, (⟨(⟨#[98]⟩ : ByteArray), (⟨#[115]⟩ : ByteArray)⟩ : gl), (⟨#[100]⟩ : ByteArray), (⟨zS, zS⟩ : gl), (⟨zS, zS⟩ : gl), zS⟩ : gm)]) (⟨(⟨(⟨#[97]⟩ : ByteArray), (⟨#[114]⟩ : ByteArray)⟩ : gl), (⟨#[100]⟩ : ByteArray)⟩ : gr)).bind fun b => ((if ((q.length : Int) == 2) then ((jK q 1).bind fun p => some (pp p (⟨(⟨(⟨#[98]⟩ : ByteArray), (⟨#[115]⟩ : ByteArray)⟩ : gl), 1, 1, 1⟩ : gx))) else some false).bind fun h => ((if h then some a.2 else some false).bind fun i => ((if i then some (gz a.1.gl (⟨(⟨#[98]⟩ : ByteArray), (⟨#[115]⟩ : ByteArray)⟩ : gl)) else some false).bind fun j => ((if j then some b.2 else some false).bind fun k => ((if k then some (b.1 == 1) else some false).bind fun l => ((if l then ((sA ([(⟨2, (⟨(⟨#[97]⟩ : ByteArray), (⟨#[114]⟩ : ByteArray)⟩ : gl), zS, (⟨(⟨#[98]⟩ : ByteArray), (⟨#[115]⟩ : ByteArray)⟩ : gl), (⟨zS, zS⟩ : gl), zS⟩ : gm), (⟨1, (⟨(⟨#[98]⟩ : ByteArray), (⟨#[115]⟩ : ByteArray)⟩ : gl), (⟨#[100]⟩ : ByteArray), (⟨zS, zS⟩ : gl), (⟨zS, zS⟩ : gl), zS⟩ : gm)])).bind fun g => some (g == 2)) else some false).bind fun m => ((if m then ((kI ([(⟨2, (⟨(⟨#[97]⟩ : ByteArray), (⟨#[114]⟩ : ByteArray)⟩ : gl), zS, (⟨(⟨#[98]⟩ : ByteArray), (⟨#[115]⟩ : ByteArray)⟩ : gl), (⟨zS, zS⟩ : gl), zS⟩ : gm), (⟨1, (⟨(⟨#[98]⟩ : ByteArray), (⟨#[115]⟩ : ByteArray)⟩ : gl), (⟨#[100]⟩ : ByteArray), (⟨zS, zS⟩ : gl), (⟨zS, zS⟩ : gl), zS⟩ : gm)])).bind fun d => some ((d.length : Int) == 0)) else some false).bind fun n => ((if n then ((nY (decide (0 ≤ 1) && decide (1 ≤ (([(⟨2, (⟨(⟨#[97]⟩ : ByteArray), (⟨#[114]⟩ : ByteArray)⟩ : gl), zS, (⟨(⟨#[98]⟩ : ByteArray), (⟨#[115]⟩ : ByteArray)⟩ : gl), (⟨zS, zS⟩ : gl), zS⟩ : gm), (⟨1, (⟨(⟨#[98]⟩ : ByteArray), (⟨#[115]⟩ : ByteArray)⟩ : gl), (⟨#[100]⟩ : ByteArray), (⟨zS, zS⟩ : gl), (⟨zS, zS⟩ : gl), zS⟩ : gm)]).length : Int)))).bind fun _ => ((kI (([(⟨2, (⟨(⟨#[97]⟩ : ByteArray), (⟨#[114]⟩ : ByteArray)⟩ : gl), zS, (⟨(⟨#[98]⟩ : ByteArray), (⟨#[115]⟩ : ByteArray)⟩ : gl), (⟨zS, zS⟩ : gl), zS⟩ : gm), (⟨1, (⟨(⟨#[98]⟩ : ByteArray), (⟨#[115]⟩ : ByteArray)⟩ : gl), (⟨#[100]⟩ : ByteArray), (⟨zS, zS⟩ : gl), (⟨zS, zS⟩ : gl), zS⟩ : gm)]).drop (Int.toNat 1))).bind fun c => some ((c.length : Int) == 1))) else some false).bind fun o => some o)))))))))))
def pU (a0 : gm) : Option (List gl) :=
 ((nF a0).bind fun a => (if (!a) then some [] else (if (a0.Kind == 1) then some [a0.Head] else (if (a0.Kind == 4) then some [a0.Head, a0.B, a0.C] else some [a0.Head, a0.B]))))
def jV (b : gl) : List gm → gx → Option gx
 | [], a => some a
 | c :: h, a => (((if (gz c.Head b) then some (⟨a.gl, (wi0 .i64 (a.ke + 1)), a.jg, a.oI⟩ : gx) else some a) : Option gx).bind fun d => ((((if (decide (c.Kind > 1)) then some (gz c.B b) else some false).bind fun j => (if j then some (⟨d.gl, d.ke, (wi0 .i64 (d.jg + 1)), d.oI⟩ : gx) else some d)) : Option gx).bind fun g => ((if (c.Kind == 4) then some (gz c.C b) else some false).bind fun i => (if i then (jV b h (⟨g.gl, g.ke, (wi0 .i64 (g.jg + 1)), g.oI⟩ : gx)) else (jV b h g)))))
def ly (j : List gr) (l : List gm) : List gl → (List gx) → Option (List gx)
 | [], a => some a
 | b :: c, a => ((((mG j b).bind fun g => some ((⟨b, 0, 0, (g.length : Int)⟩ : gx), (⟨(⟨zS, zS⟩ : gl), 0, 0, 0⟩ : gx))) : Option (gx × gx)).bind fun (h, k) => ((jV b l h).bind fun i => ((jh 56 a ([i])).bind fun d => (ly j l c d))))
def kG (g : List gr) (k : List gm) : List gm → (List gl) → Option (List gx)
 | [], a => ((tg a).bind fun i => ((ly g k i ([])).bind fun b => some b))
 | j :: c, a => ((pU j).bind fun h => ((jh 32 a h).bind fun d => (kG g k c d)))
def mL (a0 : List gm) : Option (List gx) :=
 ((lD a0).bind fun b => ((rV a0).bind fun a => kG a b b ([])))
def kY (b : gx) : List gm → Bool → Option Bool
 | [], a => some a
 | c :: d, a => ((if a then ((if (!(gz c.Head b.gl)) then some true else some (c.Kind == 1)).bind fun h => some h) else some false).bind fun g => (kY b d g))
def kw (a0 : List gm) : List gx → (List gl) → Option (List gl)
 | [], a => some a
 | b :: c, a => ((lD a0).bind fun g => ((kY b g true).bind fun h => ((if (decide (b.ke > 0)) then some (b.jg == 0) else some false).bind fun i => ((if i then some h else some false).bind fun j => (if j then ((jh 32 a ([b.gl])).bind fun d => (kw a0 c d)) else (kw a0 c a))))))
def oK (a0 : List gm) : Option (List gl) :=
 ((mL a0).bind fun a => kw a0 a ([]))
def iT (c : List gx) (a0 : List gm) : List gx → Nat → gx → Option Bool
 | [], _, b => ((nr a0).bind fun g => ((if (pp g.1 b) then some (g.2 == (decide ((c.length : Int) > 0))) else some false).bind fun p => ((if p then ((kI a0).bind fun h => ((oK a0).bind fun i => ((qF h i).bind fun j => some j))) else some false).bind fun q => some q)))
 | k :: d, a, b => ((jK c (a : Int)).bind fun l => (if (!(pp k l)) then some false else ((if ((a : Int) == 0) then some true else ((jK c (a : Int)).bind fun o => some (decide (o.jg > b.jg)))).bind fun m => (if m then ((jK c (a : Int)).bind fun n => (iT c a0 d (a + 1) n)) else (iT c a0 d (a + 1) b)))))
def nL (a0 : List gm) : Option Bool :=
 (oP.bind fun c => (if (!c) then some false else ((rI a0).bind fun d => (if (decide (d > 1200)) then some true else ((jT a0).bind fun b => ((mL a0).bind fun a => (if ((b.length : Int) != (a.length : Int)) then some false else iT a a0 b 0 (⟨(⟨zS, zS⟩ : gl), 0, 0, 0⟩ : gx))))))))
def mR (c : List gr) (a : gm) (n : List ByteArray) : List ByteArray → (List gr) → Option (List gr)
 | [], b => some b
 | d :: g, b => ((oq c a n d).bind fun i => ((if i then ((lO c a.Head d).bind fun k => some (!k)) else some false).bind fun l => ((if l then ((lO b a.Head d).bind fun j => some (!j)) else some false).bind fun m => (if m then ((jh 48 b ([(⟨a.Head, d⟩ : gr)])).bind fun h => (mR c a n g h)) else (mR c a n g b)))))
def kU (b : List gr) (h : List ByteArray) : List gm → (List gr) → Option (List gr)
 | [], a => some a
 | g :: c, a => ((mR b g h h a).bind fun d => (kU b h c d))
def jA (i : List ByteArray) (j : List gm) : Nat → (List gr) → (List (List gr)) → Option (List (List gr))
 | 0, _, _ => none
 | h + 1, b, c => ((kU b i j ([])).bind fun a => (if ((a.length : Int) == 0) then some c else ((jh 24 c ([a])).bind fun d => ((jh 48 b a).bind fun g => (jA i j h g d)))))
def pG (a0 : List gm) : Option (List (List gr)) :=
 ((lD a0).bind fun b => ((nE b).bind fun a => jA a b jj ([]) ([])))
end
end Go.Proofs.YtbnbdigcbldfhaaGreat
