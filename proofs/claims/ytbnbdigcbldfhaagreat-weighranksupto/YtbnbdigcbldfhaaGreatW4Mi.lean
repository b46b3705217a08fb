/- a part of a proof of WeighRanks -/
import Derived.Test.YtbnbdigcbldfhaaGreatRtWi
import Derived.Recover
import Derived.LaidEqlPtr
import Derived.RangeFuncRecord
import Derived.Shelf.SlSortCmp.NoneTotal
import Derived.Shelf.SortM.Plain
import Derived.Shelf.SortM.SortNone
import Derived.Shelf.SlIter.Sorted
import Derived.Shelf.SlIter.Nil
import Derived.Test.YtbnbdigcbldfhaaGreatProg
import Derived.KernelRfl
set_option linter.all false
namespace Go.Proofs.YtbnbdigcbldfhaaGreat
open Go.IntKind renaming wrap → wi0
open Go.RowKit
variable [M : Md]
theorem bS {α β : Type} {m : Option α} {f : α → Option β} {r : β} {G : Prop} (h : m.bind f = some r) (k : ∀ x, m = some x → f x = some r → G) : G :=
 let ⟨x, a, b⟩ := bind_some h
 k x a b
theorem sj {α : Type} {a b : α} (h : some a = some b) : a = b := gi h
theorem bC {α : Type} {b : Bool} {x y r : α} {G : Prop} (h : (if b = true then x else y) = r) (a : b = true → x = r → G) (k2 : b = false → y = r → G) : G := by
 rcases Br b with e | e
 ·exact a e (Ej e h)
 ·exact k2 e (Em e h)
theorem cB {a b : Bool} (h : a = b) : Value.bool a = Value.bool b := ap Value.bool h
theorem nb {a b : Nat} (h : Nat.ble a b = true := by exact rfl) : a ≤ b := Nat.le_of_ble_eq_true h
def Fy : Nat → Nat → List Bool
 | 0, _ => []
 | n + 1, m => (m % 2 == 1) :: Fy n (m / 2)
def bm (n m : Nat) : Array Bool := (Fy n m).toArray
section
variable {P : Program} {n : Nat} {Q : jW} {E : Nat → Value} {W : World}
theorem CI {α : Type} {co : Operand} {b : Bool} {x y : Code} {A B r : α} (hm : (if b = true then A else B) = r) (a : gz E co = .bool b) (d : b = true → A = r → CW P n x Q E W) (c : b = false → B = r → CW P n y Q E W) : CW P n (.cond co x y) Q E W :=
 AU a (fun e => d e (Ej e hm)) (fun e => c e (Em e hm))
theorem CJ {σ ρ : Type} {m : Option σ} {k : σ → Option ρ} {r : ρ} {x : Code} {K : (Nat → Value) → World → Prop} (hm : m.bind k = some r) (I : σ → (Nat → Value) → World → Prop) (h1 : ∀ s, m = some s → CW P n x (kP (I s) Q) E W) (c : ∀ s E W, I s E W → k s = some r → K E W) : CW P n x (kP K Q) E W :=
 let ⟨s, a, b⟩ := bind_some hm
 BZ (I s) (h1 s a) (fun E W h => c s E W h b)
theorem FV {σ ρ c : Type} {m : Option (c ⊕ σ)} {k : c ⊕ σ → Option ρ} {r : ρ} {x : Code} {K : (Nat → Value) → World → Prop} (hm : m.bind k = some r) (I : σ → (Nat → Value) → World → Prop) (h1 : ∀ s, m = some s → k s = some r → CW P n x (kP (fun E W => ∃ t, s = .inr t ∧ I t E W) Q) E W) (d : ∀ s E W, I s E W → k (.inr s) = some r → K E W) : CW P n x (kP K Q) E W :=
 let ⟨s, a, b⟩ := bind_some hm
 BZ (fun E W => ∃ t, s = .inr t ∧ I t E W) (h1 s a b) (fun E W ⟨t, e, h⟩ => d t E W h (by subst e; exact b))
theorem LJ {σ ρ : Type} {m : Option σ} {k : σ → Option ρ} {r : ρ} {ops : Array Oper} {rest : List Oper} (hm : m.bind k = some r) (I : σ → (Nat → Value) → World → Prop) (j : Nat) (c : ∀ s E W, I s E W → k s = some r → LW P n ops Q (rest.drop j) E W) (h1 : ∀ s, m = some s → (∀ E W, I s E W → LW P n ops Q (rest.drop j) E W) → LW P n ops Q rest E W) : LW P n ops Q rest E W :=
 let ⟨s, a, b⟩ := bind_some hm
 h1 s a (fun E W h => c s E W h b)
theorem PJ {σ ρ : Type} {m : Option σ} {k : σ → Option ρ} {r : ρ} {ops : Array Oper} {S : Array Bool → World → Prop} {fuel : Nat} {listed : Array Bool} (hm : m.bind k = some r) (I : σ → (Nat → Value) → World → Prop) (d : Array Bool) (c : Nat) (g : ∀ s E W, I s E W → k s = some r → PX P n ops Q S c d E W) (h1 : ∀ s, m = some s → (∀ E W, I s E W → PX P n ops Q S c d E W) → PX P n ops Q S fuel listed E W) : PX P n ops Q S fuel listed E W :=
 let ⟨s, a, b⟩ := bind_some hm
 h1 s a (fun E W h => g s E W h b)
theorem cF (n : Nat) {f : FuncId} {fn : Func} {c : Code} {args : List Value} {w : World} {R : Ending → World → Prop} (a : P.funcs[f]? = some fn) (b : fn.body = some c) (h : @CW qo P n c (oG P fn R) (qn args) w) (g : fn.ntmps = n := by exact rfl) (d : args.length ≤ n := by exact nb) : Calls P f args.toArray w R := pN a b g d h
end
section
variable {dd : Bool} {P : Program} {fn : Func} {E : Nat → Value} {W w : World} {μ : gS} {L : List (Nat × Obj)}
theorem rP {t : Tmp} {v : Value} (a : ST dd ia w W μ L) (b : fn.results = #[.tmp t] := by exact rfl) (c : E t = v := by exact rfl) : oG P fn (fun e W' => e = .returned v ∧ Ex dd w W') .ret E W := iC b c ⟨rfl, a.ex⟩
end
theorem ST.FG {dd : Bool} {F : Nat → Prop} {w W : World} {μ : gS} {x : Nat × Obj} {L : List (Nat × Obj)} (h : ST dd F w W μ (x :: L)) : ST dd F w W μ ([x] ++ L) := h
theorem aL {E : Nat → Value} {ax : Array Operand} {l : List Value} (h : ax.toList.map (gz E) = l) : ax.map (gz E) ++ (#[] : Array Value) = l.toArray := by subst h; apply Array.ext'; simp
section
variable {dd : Bool}
variable {P : Program} {E : Nat → Value} {W : World} {d : Option Nat} {ty : TypeId} {pos : String} {af : Array Edge} {g : Option (Nat × Bool)}
 {F : Nat → Prop} {w : World} {μ : gS} {L : List (Nat × Obj)}
variable {f : FuncId} {fv : Operand} {ax : Array Operand} {ats : Array TypeId} {args : List Value} {v : Value} {K : Value → World → Prop}
theorem Eg (a : ST dd F w W μ L) (he : ∀ args w, (callFunc f args).run P w = .ok (.enter f args) w) (c : iA dd P f args W v) (h : ∀ W', ST dd F w W' μ L → K v W') (i : gz E fv = .func (.func f) #[] #[] := by exact rfl) (b : ax.toList.map (gz E) = args := by exact rfl) : jh P E ⟨d, .call ⟨.value fv, ax, ats⟩, ty, pos, af, g⟩ W K := D8 a i he (aL b) c h
theorem nU {α : Type} {e : TypeId} {enc : α → List Value} {k : Nat} {l : List α} {Y : List (Nat × Obj)} (a : ST dd F w W μ Y) (he : ∀ args w, (callFunc f args).run P w = .ok (.enter f args) w) (c : iS dd P f args W e enc k l) (h : ∀ W' v μ' R, ST dd F w W' μ' (R ++ Y) → gZ μ μ' → Lo F w μ μ' → gM e enc k v l R → K v W') (i : gz E fv = .func (.func f) #[] #[] := by exact rfl) (b : ax.toList.map (gz E) = args := by exact rfl) : jh P E ⟨d, .call ⟨.value fv, ax, ats⟩, ty, pos, af, g⟩ W K := AT _ a i he (aL b) c h
theorem vS {K' : Value → List (Nat × Obj) → World → Prop} {L0 L2 : List (Nat × Obj)} (i : ST dd F w W μ L) (j : L.Perm (L0 ++ L2)) (he : ∀ args w, (callFunc f args).run P w = .ok (.enter f args) w) (l : sW L0 W → (L0.map (·.1)).Nodup → gZ μ (mG W L0) → (∀ b o, (b, o) ∈ L2 → mG W L0 b = some o) → ie dd P f args W L0 K') (h : ∀ W' v μ' L1, ST dd F w W' μ' (L1 ++ L2) → gZ μ μ' → Lo F w μ μ' → (∀ b, W.heap.size ≤ b → ∀ o, mG W' L1 b = some o → μ' b = some o) → K' v L1 W' → K v W') (m : gz E fv = .func (.func f) #[] #[] := by exact rfl) (k : ax.toList.map (gz E) = args := by exact rfl) : jh P E ⟨d, .call ⟨.value fv, ax, ats⟩, ty, pos, af, g⟩ W K :=
 Ea L0 L2 i j m he (aL k) (fun a b c d => by have := l a b c d; simpa using this) h
theorem FT {K' : Value → List (Nat × Obj) → gS → Prop} {L0 L2 : List (Nat × Obj)} (i : ST dd F w W μ L) (j : L.Perm (L0 ++ L2)) (he : ∀ args w, (callFunc f args).run P w = .ok (.enter f args) w) (l : sW L0 W → (L0.map (·.1)).Nodup → gZ μ (mG W L0) → (∀ b o, (b, o) ∈ L2 → mG W L0 b = some o) → oQ dd P f args W μ L0 K') (h : ∀ W' v μ' L1, ST dd F w W' μ' (L1 ++ L2) → gZ μ μ' → Lo F w μ μ' → K' v L1 μ' → K v W') (m : gz E fv = .func (.func f) #[] #[] := by exact rfl) (k : ax.toList.map (gz E) = args := by exact rfl) : jh P E ⟨d, .call ⟨.value fv, ax, ats⟩, ty, pos, af, g⟩ W K :=
 C4 L0 L2 i j m he (aL k) (fun a b c d => by have := l a b c d; simpa using this) h
end
end Go.Proofs.YtbnbdigcbldfhaaGreat
namespace Go.Proofs.YtbnbdigcbldfhaaGreat
open Go.IntKind renaming wrap → wi0
open Go.RowKit
def F0 (R : List (Nat × Obj)) (k : Nat) (p : Value) (i a : Nat) : Prop := ∃ g o, R = [(g, o)] ∧ p = .pointer (some ⟨g, i * k + a, none⟩)
theorem um.f {R : List (Nat × Obj)} {k : Nat} {p : Value} {i : Nat} (h : um R k p i) : F0 R k p i 0 := h
section
variable {P : Program} {E : Nat → Value} {W : World} {d : Option Nat} {ty : TypeId} {pos : String} {af : Array Edge} {g : Option (Nat × Bool)}
 {dd : Bool} {F : Nat → Prop} {w : World} {μ : gS} {L : List (Nat × Obj)} {α : Type} {e' : TypeId} {enc : α → List Value} {k : Nat} {v : Value} {l : List α} {R : List (Nat × Obj)}
theorem gM.put (h : gM e' enc k v l R) (hk : ∀ x, (enc x).length = k) {p : Value} {i : Nat} (hp : um R k p i) {x0 : α} (q : l[i]? = some x0) (x1 : α) :
  ∃ g a, R = [(g, .cells a e' (0, 0))] ∧ p = .pointer (some ⟨g, i * k, none⟩) ∧ i * k + k ≤ a.size ∧ (∀ j y, (enc x0)[j]? = some y → a[i * k + j]? = some y) ∧
   gM e' enc k v (l.set i x1) [(g, .cells (a.toList.take (i * k) ++ enc x1 ++ a.toList.drop (i * k + k)).toArray e' (0, 0))] := by
 have m : i < l.length := (aw.1 q).1
 obtain ⟨g', a, cap, rfl, rfl, o, t, d, u, rfl, w⟩ := rX h hk hp q
 have hle : i * k + k ≤ cap * k := by
  have : (i + 1) * k ≤ cap * k := aS _ (by omega)
  rwa [aW, fx] at this
 have b : i * k + k ≤ l.length * k := by
  have : (i + 1) * k ≤ l.length * k := aS _ (by omega)
  rwa [aW, fx] at this
 have hlen : l.length * k ≤ cap * k := aS _ o
 refine ⟨g', a, rfl, rfl, by rw [d]; exact hle, w, .inr ⟨g', cap, _, by simp, rfl, by simpa using o, t, ?_, ?_⟩⟩
 ·show ((a.toList.take (i * k) ++ (enc x1) ++ a.toList.drop (i * k + k)).toArray).size = _
  have c : a.toList.length = cap * k := by simpa using d
  rw [cg, an, an, bH, er, hk, c, bP (by omega)]; omega
 ·rw [eF, vW hk l i x1 m, ← u]
  have r : (a.toList.take (l.length * k)).take (i * k) = a.toList.take (i * k) := by rw [eb]; congr 1; omega
  have s : (a.toList.take (l.length * k)).drop (i * k + k) = (a.toList.drop (i * k + k)).take (l.length * k - (i * k + k)) := by rw [eU]
  rw [r, s]
  show List.take (l.length * k) (a.toList.take (i * k) ++ enc x1 ++ a.toList.drop (i * k + k)) = _
  have c : a.toList.length = cap * k := by simpa using d
  have n : (a.toList.take (i * k) ++ enc x1).length = i * k + k := by rw [an, bH, hk, c, bP (by omega)]
  rw [dq, bM (by rw [n]; exact b), n]
end
variable [M : Md]
theorem oc {v : Value} (h : v.cells.toList.all Value.oneCell' = true := by exact rfl) : ∀ u ∈ v.cells.toList, u.oneCell' = true := fT.1 h
theorem dc {p : Prop} [Decidable p] (h : p := by decide) : p := h
theorem kr {p : Prop} (h : p := by kernel_rfl) : p := h
theorem br {α : Sort _} {a b : α} (h : a = b := by rfl) : a = b := h
abbrev LO := List (Nat × Obj)
abbrev Ob (c : Array Value) (t : TypeId) : Obj := .cells c t (0, 0)
abbrev Ol (c : List Value) (t : TypeId) : Obj := .cells c.toArray t (0, 0)
theorem kz {P : Program} {t e : TypeId} {m k : Nat} {z : Value} {qs : Array (Nat × Value)} {cs : Array Value} (g : P.underlying t = some (.slice e)) (d : ∀ w, (sizeOf e).run P w = .ok k w) (j : ∀ w, (zeroValue e).run P w = .ok z w) (hm : m * k ≤ 16777216 := by decide) (c : qs.toList = (qs.toList.map (·.2)).zipIdx.map (fun p => (p.2, p.1)) := by exact rfl) (i : (qs.toList.map (·.2)).all (fun v => v.cells.size == k) = true := by exact rfl) (b : (qs.toList.map (·.2)).length = m := by exact rfl) (a : ((qs.toList.map (·.2)).flatMap (fun v => v.cells.toList)).toArray = cs := by exact rfl) (W : World) :
  (Instr.buildSlice t m qs).run P W = .ok (.slice (some ⟨W.heap.size, 0, none⟩) m m) (W.alloc (.cells cs e (0, 0))) :=
 vA _ g d j hm c (fun v h => eq_of_beq (fT.1 i v h)) b a W
section
variable {dd : Bool} {P : Program} {fn : Func} {E : Nat → Value} {W w : World} {μ : gS} {L L0 : List (Nat × Obj)}
theorem rQ {α : Type} {f : α → Value} {a r : α} {t : Tmp} (hm : some a = some r) (b : ST dd ia w W μ L) (c : fn.results = #[.tmp t] := by exact rfl) (d : E t = f a := by exact rfl) : oG P fn (fun e W' => e = .returned (f r) ∧ Ex dd w W') .ret E W := by
 obtain rfl := sj hm; exact iC c d ⟨rfl, b.ex⟩
theorem cG (n : Nat) {f : FuncId} {c : Code} {args : List Value} {v : Value} (a : P.funcs[f]? = some fn) (b : fn.body = some c) (h : ST dd ia w w (hp w) [] → @CW qo P n c (oG P fn (fun e i => e = .returned v ∧ Ex dd w i)) (qn args) w) (g : fn.ntmps = n := by exact rfl) (d : args.length ≤ n := by exact nb) : iA dd P f args w v := pN a b g d (h (ST.start w))
theorem qH {K : Value → List (Nat × Obj) → World → Prop} (n : Nat) {f : FuncId} {c : Code} {args : List Value} (a : P.funcs[f]? = some fn) (d : fn.body = some c) (h : ST dd ia w w (hp w) [] → @CW qo P n c (oG P fn (fun e b => ∃ v L1, e = .returned v ∧ mL dd [] L1 w b ∧ K v L1 b)) (qn args) w) (i : fn.ntmps = n := by exact rfl) (g : args.length ≤ n := by exact nb) : ie dd P f args w [] K := pN a d i g (h (ST.start w))
theorem sA {K : Value → List (Nat × Obj) → World → Prop} (d : pb μ L0 w) (n : Nat) {f : FuncId} {c : Code} {args : List Value} (a : P.funcs[f]? = some fn) (g : fn.body = some c) (h : ST dd (keys L0) w w μ L0 → @CW qo P n c (oG P fn (fun e b => ∃ v L1, e = .returned v ∧ mL dd L0 L1 w b ∧ K v L1 b)) (qn args) w) (j : fn.ntmps = n := by exact rfl) (i : args.length ≤ n := by exact nb) : ie dd P f args w L0 K := pN a g j i (h (ST.zz d))
theorem F3 {K : Value → List (Nat × Obj) → gS → Prop} (d : pb μ L0 w) (n : Nat) {f : FuncId} {c : Code} {args : List Value} (a : P.funcs[f]? = some fn) (g : fn.body = some c) (h : ST dd (keys L0) w w μ L0 → @CW qo P n c (oG P fn (fun e b => ∃ v L1 μ1, e = .returned v ∧ mL dd L0 L1 w b ∧ gZ μ μ1 ∧ Lo (keys L0) w μ μ1 ∧ gZ μ1 (mG b L1) ∧ K v L1 μ1)) (qn args) w) (j : fn.ntmps = n := by exact rfl) (i : args.length ≤ n := by exact nb) : oQ dd P f args w μ L0 K := pN a g j i (h (ST.zz d))
end
section
variable {dd : Bool}
variable {P : Program} {E : Nat → Value} {W : World} {d : Option Nat} {ty : TypeId} {pos : String} {af : Array Edge} {g : Option (Nat × Bool)}
 {F : Nat → Prop} {w : World} {μ : gS} {L : List (Nat × Obj)}
variable {f : FuncId} {fv : Operand} {ax : Array Operand} {ats : Array TypeId} {args : List Value} {v : Value} {K : Value → World → Prop}
theorem eM {K' : Value → List (Nat × Obj) → World → Prop} {L0 L2 : List (Nat × Obj)} (i : ST dd F w W μ L) (j : L.Perm (L0 ++ L2)) (he : ∀ args w, (callFunc f args).run P w = .ok (.enter f args) w) (l : pb (mG W L0) L0 W → gZ μ (mG W L0) → ie dd P f args W L0 K') (h : ∀ W' v μ' L1, ST dd F w W' μ' (L1 ++ L2) → gZ μ μ' → Lo F w μ μ' → (∀ b, W.heap.size ≤ b → ∀ o, mG W' L1 b = some o → μ' b = some o) → K' v L1 W' → K v W') (m : gz E fv = .func (.func f) #[] #[] := by exact rfl) (k : ax.toList.map (gz E) = args := by exact rfl) : jh P E ⟨d, .call ⟨.value fv, ax, ats⟩, ty, pos, af, g⟩ W K :=
 vS i j he (fun a b c _ => l ⟨a, b, gZ.refl _⟩ c) h m k
theorem eD {K' : Value → List (Nat × Obj) → gS → Prop} {L0 L2 : List (Nat × Obj)} (i : ST dd F w W μ L) (j : L.Perm (L0 ++ L2)) (he : ∀ args w, (callFunc f args).run P w = .ok (.enter f args) w) (l : pb μ L0 W → oQ dd P f args W μ L0 K') (h : ∀ W' v μ' L1, ST dd F w W' μ' (L1 ++ L2) → gZ μ μ' → Lo F w μ μ' → K' v L1 μ' → K v W') (m : gz E fv = .func (.func f) #[] #[] := by exact rfl) (k : ax.toList.map (gz E) = args := by exact rfl) : jh P E ⟨d, .call ⟨.value fv, ax, ats⟩, ty, pos, af, g⟩ W K :=
 FT i j he (fun a b c _ => l ⟨a, b, c⟩) h m k
end
def BF (op : BinOp) : Value → Value → Option Value
 | .int k a, .int k' b => if k = k' then yA k op a b else none
 | _, _ => none
def El (i : Nat) : Value → Option Value
 | .tuple vs => vs[i]?
 | _ => none
def yF : Value → Bool
 | .pointer (some ⟨_, _, none⟩) => true
 | _ => false
def EU (o : Nat) : Value → Value
 | .pointer (some ⟨b, k, none⟩) => .pointer (some ⟨b, k + o, none⟩)
 | v => v
theorem yd {v : Value} (h : yF v = true) : ∃ b k, v = .pointer (some ⟨b, k, none⟩) := by
 unfold yF at h; split at h
 ·exact ⟨_, _, rfl⟩
 ·cases h
section
variable {P : Program} {n : Nat} {Q : jW} {E : Nat → Value} {W : World} {ops : Array Oper} {rest : List Oper}
 {d j t : Nat} {want b : Bool} {v : Value} {ins : Go.Op} {ty : TypeId} {pos : String} {af : Array Edge} {A : Value → Prop} {x y : Operand}
theorem Wm (h : LW P n ops Q rest (jw E d (gz E x)) W) (a : d < n := by decide) : LW P n ops Q (⟨some d, .move x, ty, pos, af, none⟩ :: rest) E W := V (gF rfl) h a
theorem Wa (h : LW P n ops Q rest (jw E d (gz E x)) W) (a : d < n := by decide) : LW P n ops Q (⟨some d, .assign x, ty, pos, af, none⟩ :: rest) E W := V (jU rfl) h a
theorem Wh (b : gz E x = v) (h : LW P n ops Q rest (jw E d v) W) (a : d < n := by decide) : LW P n ops Q (⟨some d, .move x, ty, pos, af, none⟩ :: rest) E W := V (gF b) h a
theorem Wg (b : gz E x = v) (h : LW P n ops Q rest (jw E d v) W) (a : d < n := by decide) : LW P n ops Q (⟨some d, .assign x, ty, pos, af, none⟩ :: rest) E W := V (jU b) h a
theorem Wx {i : Nat} (a : El i (gz E x) = some v) (h : LW P n ops Q rest (jw E d v) W) (b : d < n := by decide) : LW P n ops Q (⟨some d, .extract x i, ty, pos, af, none⟩ :: rest) E W := by
 unfold El at a; split at a
 ·rename_i vs e; exact V (oB e a) h b
 ·cases a
theorem Wi {op : BinOp} {m l : TypeId} (c : BF op (gz E x) (gz E y) = some v) (h : LW P n ops Q rest (jw E d v) W) (j : d < n := by decide) : LW P n ops Q (⟨some d, .binOp op m x y l, ty, pos, af, none⟩ :: rest) E W := by
 unfold BF at c; split at c
 ·rename_i k a k' b g i
  split at c
  ·rename_i e; subst e; exact V (jm g i c) h j
  ·cases c
 ·cases c
theorem Wf {t : TypeId} {f off : Nat} (a : jx P t f off) (h : LW P n ops Q rest (jw E d (EU off (gz E x))) W) (hp : yF (gz E x) = true := by exact rfl) (c : d < n := by decide) : LW P n ops Q (⟨some d, .fieldAddr t x f, ty, pos, af, none⟩ :: rest) E W := by
 obtain ⟨b, k, e⟩ := yd hp
 refine V (gE a e) ?_ c
 rw [e] at h; exact h
theorem Wn (h : LW P n ops Q rest (jw E d (gz E x)) W) (hp : yF (gz E x) = true := by exact rfl) (a : d < n := by decide) : LW P n ops Q (⟨some d, .nilCheck x, ty, pos, af, none⟩ :: rest) E W := by
 obtain ⟨b, k, e⟩ := yd hp
 refine V (jj e) ?_ a
 rw [e] at h; exact h
theorem un (h : b = !want) (k : LW P n ops Q rest (jw E d undef) W) (c : (ops[j]?).bind (·.dst) = some t := by exact rfl) (a : E t = .bool b := by exact rfl) (i : t < n := by decide) (g : d < n := by decide) :
  LW P n ops Q (⟨some d, ins, ty, pos, af, some (j, want)⟩ :: rest) E W := Vn c (by rw [a, h]) k i g
theorem ug (h : b = want) (i : iu P E ⟨some d, ins, ty, pos, af, some (j, want)⟩ W v W) (k : LW P n ops Q rest (jw E d v) W) (c : (ops[j]?).bind (·.dst) = some t := by exact rfl) (a : E t = .bool b := by exact rfl) (l : t < n := by decide) (g : d < n := by decide) :
  LW P n ops Q (⟨some d, ins, ty, pos, af, some (j, want)⟩ :: rest) E W := Vg c (by rw [a, h]) i k l g
theorem oK (h : b = want) (k : jh P E ⟨some d, ins, ty, pos, af, some (j, want)⟩ W fun v W' => LW P n ops Q rest (jw E d v) W') (c : (ops[j]?).bind (·.dst) = some t := by exact rfl) (a : E t = .bool b := by exact rfl) (i : t < n := by decide) (g : d < n := by decide) :
  LW P n ops Q (⟨some d, ins, ty, pos, af, some (j, want)⟩ :: rest) E W := EM c (by rw [a, h]) k i g
theorem Ft (h : b = want) (i : ∃ p, A p ∧ ∀ W, iu P E ⟨some d, ins, ty, pos, af, some (j, want)⟩ W p W) (k : ∀ p, A p → LW P n ops Q rest (jw E d p) W) (c : (ops[j]?).bind (·.dst) = some t := by exact rfl) (a : E t = .bool b := by exact rfl) (l : t < n := by decide) (g : d < n := by decide) :
  LW P n ops Q (⟨some d, ins, ty, pos, af, some (j, want)⟩ :: rest) E W := F2 c (by rw [a, h]) i k l g
section
variable {dd : Bool} {F : Nat → Prop} {w : World} {μ : gS} {L : List (Nat × Obj)} {T : TypeId} {a off : Nat} {cs : Array Value} {fr : Nat × Nat}
theorem VA {t : TypeId} (b : ST dd F w W μ L) (g : (a, Obj.cells cs T fr) ∈ L) (ys : List Value) (c : ∀ w, (isAgg t).run P w = .ok true w) (i : ∀ w, (sizeOf t).run P w = .ok ys.length w) (h : LW P n ops Q rest (jw E d (.agg ys.toArray)) W) (k : gz E x = .pointer (some ⟨a, off, none⟩) := by exact rfl) (l : (cs.toList.drop off).take ys.length = ys := by exact rfl) (j : d < n := by decide) : LW P n ops Q (⟨some d, .load t x, ty, pos, af, none⟩ :: rest) E W := V (gA k (gK b.has g ys l c i)) h j
theorem VB {t : TypeId} (b : ST dd F w W μ L) (g : (a, Obj.cells cs T fr) ∈ L) (j : gz E x = .pointer (some ⟨a, off, none⟩)) (k : cs[off]? = some v) (c : ∀ w, (isAgg t).run P w = .ok false w) (h : LW P n ops Q rest (jw E d v) W) (i : d < n := by decide) : LW P n ops Q (⟨some d, .load t x, ty, pos, af, none⟩ :: rest) E W := V (gA j (gN b.has g k c)) h i
end
section
variable {K : (Nat → Value) → World → Prop} {Q' : jW} {c : Code} {id id2 : Nat} {l : List Oper} {z : Code}
theorem sg (h : LW P n l.toArray (kP (fun E W => CW P n c Q E W) Q) l E W) : CW P n (.seq (.region id l.toArray false) c) Q E W := gO (gJ h)
theorem ln (h : K E W) : LW P n ops (kP K Q) [] E W := gT (gI h)
theorem lr (h : LW P n l.toArray (kP (fun E W => CW P n c Q E W) Q) l E W) : LW P n ops (kP (fun E W => CW P n (.seq (.region id l.toArray false) c) Q E W) Q') [] E W := gT (gI (gO (gJ h)))
theorem lS (h : LW P n l.toArray (kP (fun E W => CW P n c (kP (fun E W => CW P n z Q E W) Q) E W) (kP (fun E W => CW P n z Q E W) Q)) l E W) : LW P n ops (kP (fun E W => CW P n (.seq (.seq (.region id l.toArray false) c) z) Q E W) Q') [] E W := gT (gI (gO (gO (gJ h))))
theorem bg (h : LW P n l.toArray (kP (fun E W => CW P n c (pk id2 Q) E W) (pk id2 Q)) l E W) : CW P n (.block id2 (.seq (.region id l.toArray false) c)) Q E W := jl (gO (gJ h))
theorem kg (h : LW P n l.toArray (kP (fun E W => CW P n c Q E W) Q) l E W) : CW P n .skip (kP (fun E W => CW P n (.seq (.region id l.toArray false) c) Q E W) Q') E W := iv (gI (gO (gJ h)))
theorem kS (h : LW P n l.toArray (kP (fun E W => CW P n c (kP (fun E W => CW P n z Q E W) Q) E W) (kP (fun E W => CW P n z Q E W) Q)) l E W) : CW P n .skip (kP (fun E W => CW P n (.seq (.seq (.region id l.toArray false) c) z) Q E W) Q') E W := iv (gI (gO (gO (gJ h))))
theorem lt (h : Q .ret E W) : LW P n ops (kP (fun E W => CW P n .ret Q E W) Q') [] E W := gT (gI (iq h))
theorem kn (h : K E W) : CW P n .skip (kP K Q) E W := iv (gI h)
end
end
theorem kY.B0 {α : Type} {dd : Bool} {w W : World} {μ : gS} {L R : List (Nat × Obj)} {e : TypeId} {enc : α → List Value} {k : Nat} {v : Value} {l : List α} (h : kY e enc k v l R) (c : ST dd ia w W μ L) (i : ∀ p, p ∈ R → p ∈ L) : Fr w.heap.size v := by
 rcases h with ⟨rfl, rfl, rfl⟩ | ⟨g, off, cap, a, rfl, rfl, h1, j, m, n⟩
 ·exact Fr.nil _
 ·intro b d
  simp [Value.ownBlock] at d
  subst d
  rcases (c.box g (.cells a e (0, 0)) (i _ (aA.2 rfl))).2.2 with h | h
  ·exact h
  ·exact h.elim
theorem wU.mono {α β : Type} {P : Program} {fv : Value} {μ μ0 : gS} {av : α → List Value} {a : β → Value} {pm : α → Option β} (h : wU P fv μ av a pm) (d : gZ μ μ0) : wU P fv μ0 av a pm := by
 obtain ⟨f, caps, h1, b, c⟩ := h
 exact ⟨f, caps, h1, b, fun W x r h => c W x r (d.trans h)⟩
theorem wU.form {α β : Type} {P : Program} {fv : Value} {μ : gS} {av : α → List Value} {c : β → Value} {pm : α → Option β} (h : wU P fv μ av c pm) : ∃ f a b, fv = .func f a b := let ⟨f, b, h, _⟩ := h; ⟨_, _, b, h⟩
noncomputable def vv {κ α : Type} (a : Nat) (f : α × α → Option Int) (l : List (κ × α)) : Option (List α) :=
 if l.length * a ≤ 140737488355328 ∧ l.length ≤ maxLen then rh (l.map (·.2)) (qx f) else none
theorem AQ {κ α : Type} {a : Nat} {f : α × α → Option Int} {l : List (κ × α)} {r : List α} (h : vv a f l = some r) : l.length * a ≤ 140737488355328 ∧ l.length ≤ maxLen ∧ ∀ o, o.Perm (l.map (·.2)) → qx f o = some r := by
 unfold vv at h
 split at h
 ·rename_i b; exact ⟨b.1, b.2, xL h⟩
 ·cases h
end Go.Proofs.YtbnbdigcbldfhaaGreat
namespace Go.Proofs.YtbnbdigcbldfhaaGreat
open Go.IntKind renaming wrap → wi0
open Go.RowKit
section
variable {P : Program} {W : World} {E : Nat → Value} {d : Option Nat} {ty : TypeId} {pos : String} {af : Array Edge} {g : Option (Nat × Bool)}
theorem Ed {t : TypeId} {x : Operand} {v : Value} {u : TypeDesc} (a : P.underlying t = some u) (hu : ∀ q, u ≠ .interface q) (b : gz E x = v) : iu P E ⟨d, .makeInterface t x, ty, pos, af, g⟩ W (.iface t v) W := by
 show (do let r ← Instr.makeInterface t (gz E x); pure (.value r) : Sem Next).run P W = _
 rw [b]
 unfold Instr.makeInterface
 simp only [aQ, al a, aH]
 cases u <;> simp_all
end
section
variable {P : Program} {n : Nat} {E : Nat → Value} {W : World} {c y : Code} {a : Act} {cs : List Frame} {Q : Exit → Act → List Frame → World → Prop}
theorem Dh {args : List Value} {fn : Func} {n : Nat} (b : fn.ntmps = n) (h : args.length ≤ n) : Ag n { tmps := args.toArray ++ Array.replicate (fn.ntmps - args.toArray.size) undef, defers := [] } (qn args) := by
 refine ⟨by simp; omega, rfl, fun t => ?_⟩
 simp only [qn, cx, List.getD_eq_getElem?_getD, ek, Array.getElem?_replicate, cg, dw]
 by_cases a : t < args.length
 ·rw [ak a]
 ·rw [ai a, cA (by omega)]
  split <;> simp
end
theorem ow.form {κ γ : Type} {kenc : κ → Value} {Q : Value → γ → List (Nat × Obj) → Prop} {μ : gS} {v : Value} {l : List (κ × γ)} (h : ow kenc Q μ v l) : ∃ m, v = .map m := by
 obtain ⟨a, R, h, _⟩ := h
 obtain ⟨m, rfl⟩ := h.form
 exact ⟨_, rfl⟩
theorem oQ.mono {dd : Bool} {P : Program} {f : FuncId} {args : List Value} {w : World} {μ0 : gS} {L0 : List (Nat × Obj)} {K K' : Value → List (Nat × Obj) → gS → Prop} (h : oQ dd P f args w μ0 L0 K) (hk : ∀ v L1 μ1, gZ μ0 μ1 → K v L1 μ1 → K' v L1 μ1) : oQ dd P f args w μ0 L0 K' :=
 bf h fun _ _ ⟨v, L1, μ1, h1, b, a, c, d, g⟩ => ⟨v, L1, μ1, h1, b, a, c, d, hk _ _ _ a g⟩
theorem B8 {M : Md} {n : Nat} {P : Program} {l : Nat} {f : FuncId} {tmps : Array Value} {ax body : Code} {w : World} {R : Ending → World → Prop} : RoundIn M.F n P l f tmps ax body w R ↔ RoundIn Fence.wide n P l f tmps ax body w R := Iff.rfl
def C8 (P : Program) (E : Nat → Value) (o : Oper) (W : World) (K : Value → World → Prop) : Prop :=
 ∃ l fn tmps ax body, (execOp (gz E) o).run P W = .ok (.round l fn tmps ax body) W ∧ RoundIn Fence.wide 0 P l fn tmps ax body W fun e a => ∃ v, e = .returned v ∧ K v a
section
variable [M : Md] {P : Program} {n : Nat} {Q : jW} {E : Nat → Value} {W : World} {ops : Array Oper} {rest : List Oper} {o : Oper}
theorem FD {dd : Nat} (hw : mu n ops E o) (d : o.dst = some dd) (i : dd < n) (h : C8 P E o W fun v W' => LW P n ops Q rest (jw E dd v) W') : LW P n ops Q (o :: rest) E W := fun a b => by
 obtain ⟨l, fn, tmps, ax, body, h1, c⟩ := h
 unfold wpListIn
 rw [ak (hw.of b)]
 unfold Oper.wpIn
 refine ⟨fun _ _ => trivial, ?_⟩
 rw [b.eval, pY h1 (by simp), Oper.uponIn_round]
 refine ⟨fun e => (nomatch (show (none : Option Nat).isSome = true from e)), RoundIn.mono (B8.2 c) ?_⟩
 rintro e j ⟨v, rfl, g⟩
 simp only [d]
 exact g _ (b.put i v)
theorem VY {d : Nat} {ins : Op} {ty : TypeId} {pos : String} {af : Array Edge} (h : C8 P E ⟨some d, ins, ty, pos, af, none⟩ W fun v W' => LW P n ops Q rest (jw E d v) W') (a : d < n := by decide) : LW P n ops Q (⟨some d, ins, ty, pos, af, none⟩ :: rest) E W := FD (.inl rfl) rfl a h
end
def wA {σ α β : Type} (P : Program) (fv : Value) (μ : gS) (Inv : σ → List (Nat × Obj) → Prop) (av : α → List Value) (a : β → Value) (fs : σ → α → Option (β × σ)) : Prop :=
 ∃ l, fv = .func (.yield l) #[] #[] ∧
  ∀ W s x r R, gZ μ (mG W R) → Inv s R → sW R W → (R.map (·.1)).Nodup → fs s x = some r →
   ∃ fn tmps ax body, (Instr.yield l (av x).toArray).run P W = .ok (.round l fn tmps ax body) W ∧
    RoundIn Fence.wide 0 P l fn tmps ax body W fun e b => ∃ v R', e = .returned v ∧ mL false R R' W b ∧ v = a r.1 ∧ Inv r.2 R'
section
variable {P : Program} {F : Nat → Prop} {w W : World} {μ : gS} {L : List (Nat × Obj)} {E : Nat → Value} {d : Option Nat} {ty : TypeId} {pos : String} {af : Array Edge} {g : Option (Nat × Bool)}
theorem wA.mono {σ α β : Type} {fv : Value} {μ0 : gS} {Inv : σ → List (Nat × Obj) → Prop} {av : α → List Value} {a : β → Value} {fs : σ → α → Option (β × σ)} (h : wA P fv μ Inv av a fs) (c : gZ μ μ0) : wA P fv μ0 Inv av a fs := by
 obtain ⟨l, h1, b⟩ := h
 exact ⟨l, h1, fun W s x r R h => b W s x r R (c.trans h)⟩
theorem EW {σ α β : Type} {K : Value → World → Prop} {μ0 : gS} {fv : Value} {Inv : σ → List (Nat × Obj) → Prop} {av : α → List Value} {n : β → Value} {fs : σ → α → Option (β × σ)} {i : Operand} {ax : Array Operand} {ats : Array TypeId} (s : σ) (x : α) {r : β × σ} {R : List (Nat × Obj)} (L2 : List (Nat × Obj)) (a : ST false F w W μ L) (b : L.Perm (R ++ L2)) (A : wA P fv μ0 Inv av n fs) (I : gZ μ0 μ) (u : Inv s R) (G : gz E i = fv) (y : ax.map (gz E) ++ (#[] : Array Value) = (av x).toArray) (hm : fs s x = some r) (h : ∀ W' μ' R', ST false F w W' μ' (R' ++ L2) → gZ μ μ' → Lo F w μ μ' → Inv r.2 R' → K (n r.1) W') : C8 P E ⟨d, .call ⟨.value i, ax, ats⟩, ty, pos, af, g⟩ W K := by
 obtain ⟨l, rfl, o⟩ := A
 have k : ax.map (gz E) = (av x).toArray := by simpa using y
 obtain ⟨fn, tmps, c, body, p, q⟩ := o W s x r R (I.trans (a.Ba b)) u (a.held b) (a.Bk b) hm
 refine ⟨l, fn, tmps, c, body, ?_, RoundIn.mono q ?_⟩
 ·show (do let d ← resolve (gz E) ⟨.value i, ax, ats⟩ ty; invoke d.target d.args : Sem Next).run P W = _
  rw [← p]
  simp [resolve, G, k, Deferred.ofValue, invoke]
 ·rintro e m ⟨v, R', rfl, t, rfl, j⟩
  exact ⟨_, rfl, h m _ R' ((a.perm b).back t) ((a.perm b).uU m R') ((a.perm b).wj m R') j⟩
end
abbrev xR (l : Nat) : Md := ⟨some l, []⟩
abbrev Cf (D : List Deferred) : Md := ⟨none, D⟩
def Fh (n : Nat) (Q : List Deferred → jW) (e : Exit) (a : Act) (w : World) : Prop := ∃ D, @lift (Cf D) n (Q D) e a w
def w4 (P : Program) (n : Nat) (c : Code) (Q : List Deferred → jW) (E : Nat → Value) (W : World) : Prop := ∀ a, @Ag qo n a E → c.wpIn Fence.wide 0 P (Fh n Q) a W
def Ep (E : Nat → Value) (l : List (Nat × Value)) : Nat → Value := l.foldl (fun E p => jw E p.1 p.2) E
def ES (l : Nat) (K : Value → World → Prop) : jW
 | .normal, _, w => ∃ r, w.heap[l]? = some (.loop r) ∧ K (.bool true) (w.putObj l (.loop { r with state := .ready, pending := none }))
 | .ret, _, w => ∃ r, w.heap[l]? = some (.loop r) ∧ K (.bool false) (w.putObj l (.loop { r with state := .done, pending := some .ret }))
 | .exit id, _, w => ∃ r, w.heap[l]? = some (.loop r) ∧ K (.bool false) (w.putObj l (.loop { r with state := .done, pending := some (.exit id) }))
 | _, _, _ => False
def Ek (l : Nat) (Q : jW) (E : Nat → Value) (w : World) : Prop :=
 ∃ r, w.heap[l]? = some (.loop r) ∧ r.state ≠ .busy ∧
  ((r.pending = none ∧ Q .normal E (w.putObj l (.loop { r with state := .exhausted }))) ∨ (r.pending = some .ret ∧ Q .ret E (w.putObj l (.loop { r with state := .exhausted }))) ∨
   (∃ id, r.pending = some (.exit id) ∧ Q (.exit id) E (w.putObj l (.loop { r with state := .exhausted }))))
section
variable {P : Program} {n : Nat} {Q : List Deferred → jW} {E : Nat → Value} {W : World} {c x y : Code}
theorem Au (h : @CW qo P n x (kP (fun E W => w4 P n y Q E W) (Q [])) E W) : w4 P n (.seq x y) Q E W := fun a d =>
 wpIn_seq (dp (h a d) (fun e c i h => by
  cases e with
  | normal => obtain ⟨E', b, g⟩ := h; exact g c b
  | _ => exact ⟨[], h⟩))
theorem E5 (h : w4 P n x (fun D => kP (fun E W => @CW (Cf D) P n y (Q D) E W) (Q D)) E W) : w4 P n (.seq x y) Q E W := fun a d =>
 wpIn_seq (dp (h a d) (fun e c i ⟨D, h⟩ => by
  cases e with
  | normal => obtain ⟨E', b, g⟩ := h; exact dp (g c b) (fun _ _ _ h => ⟨D, h⟩)
  | _ => exact ⟨D, h⟩))
theorem BQ {id : Nat} (h : w4 P n c (fun D => pk id (Q D)) E W) : w4 P n (.block id c) Q E W := fun a i =>
 wpIn_block (dp (h a i) (fun e k l ⟨D, h⟩ => by
  cases e with
  | exit j =>
   obtain ⟨E', b, d⟩ := h
   simp only [Exit.inBlock]
   simp only [pk] at d
   split at d
   ·rename_i g; rw [ak g]; exact ⟨D, E', b, d⟩
   ·rename_i g; rw [ai g]; exact ⟨D, E', b, d⟩
  | _ => exact ⟨D, h⟩))
theorem AH {M : Md} : ∀ (l : List (Nat × Value)) {a : Act} {E : Nat → Value}, @Ag M n a E → (∀ p ∈ l, p.1 < n) → @Ag M n { a with tmps := l.foldl (fun t p => t.setIfInBounds p.1 p.2) a.tmps } (Ep E l)
 | [], _, _, h, _ => h
 | p :: l, a, E, h, hp => by
  have h1 : @Ag M n { a with tmps := a.tmps.setIfInBounds p.1 p.2 } (jw E p.1 p.2) := Ag.put h (hp p (List.mem_cons_self ..)) p.2
  exact AH l h1 (fun q b => hp q (cJ _ b))
theorem yr {g : Operand} {k : Array Tmp} {assign body : Code} {f : FuncId} {caps : Array Value} (o : gz E g = .func (.func f) #[] caps) (he : ∀ args w, (callFunc f args).run P w = .ok (.enter f args) w) (h : ∀ (fn : FuncId) (tmps : Array Value), tmps.size = n → (∀ t, tmps.getD t undef = E t) →
   Calls P f (#[.func (.yield (W.heap.size + 1)) #[] #[]] ++ caps) ((W.alloc (.deferred (some []))).alloc (.loop { state := .ready, pending := none, fn, tmps, params := k, assign, body, defers := W.heap.size }))
    fun e w => (∃ v, e = .returned v) ∧ Ek (W.heap.size + 1) (Q [{ target := .collected W.heap.size, args := #[] }]) E w) : w4 P n (.rangeFunc g k assign body) Q E W := fun a c => by
 refine wpIn_rangeFunc fun fn _ => ?_
 have j : resolve a.eval (rangeCall g (W.heap.size + 1)) 0 = pure { target := .fn (.func f) caps, args := #[.func (.yield (W.heap.size + 1)) #[] #[]] } := by
  rw [Ag.eval c]
  simp only [resolve, rangeCall]
  rw [o]
  simp [Deferred.ofValue, gz]
 refine ⟨_, _, _, ⟨.fn (.func f) caps, #[.func (.yield (W.heap.size + 1)) #[] #[]]⟩, _, f, #[.func (.yield (W.heap.size + 1)) #[] #[]] ++ caps, _, run_enterLoop_outer fn a.tmps k assign body, by rw [j]; rfl, fun _ _ => trivial, (by rw [show invoke (.fn (.func f) caps) #[.func (.yield (W.heap.size + 1)) #[] #[]] = callFunc f (#[.func (.yield (W.heap.size + 1)) #[] #[]] ++ caps) from rfl]; exact he _ _), fun e => (nomatch (show (none : Option Nat).isSome = true from e)), ?_⟩
 refine dZ.2 (bf (h fn a.tmps c.1 c.2.2) ?_)
 rintro e w ⟨⟨v, rfl⟩, ⟨st, pe, p, rt, s, q, r, rd⟩, h1, m, l⟩
 refine ⟨_, _, run_endLoop h1 m, ?_⟩
 simp only at l
 have b : @Ag (Cf [{ target := .collected W.heap.size, args := #[] }]) n { a with defers := [{ target := .collected W.heap.size, args := #[] }] ++ a.defers } E := ⟨c.1, by show _ ++ a.defers = _; rw [show a.defers = [] from c.2.1]; rfl, c.2.2⟩
 rcases l with ⟨d, i⟩ | ⟨d, i⟩ | ⟨id, d, i⟩
 ·subst d; exact ⟨_, E, b, i⟩
 ·subst d; exact wpIn_ret ⟨_, E, b, i⟩
 ·subst d; exact wpIn_exit ⟨_, E, b, i⟩
structure Ca (n : Nat) (ps : List Nat) (assign body : Code) (E : Nat → Value) (Lp : Loop) : Prop where
 st : Lp.state = .ready
 pe : Lp.pending = none
 params : Lp.params.toList = ps
 ax : Lp.assign = assign
 bo : Lp.body = body
 sz : Lp.tmps.size = n
 ev : ∀ t, Lp.tmps.getD t undef = E t
theorem BM {dd : Bool} {F : Nat → Prop} {w : World} {μ : gS} {L : List (Nat × Obj)} {g : Operand} {b : Array Tmp} {assign body : Code} {f : FuncId} {caps : Array Value} (a : ST dd F w W μ L) (i : gz E g = .func (.func f) #[] caps) (he : ∀ args w, (callFunc f args).run P w = .ok (.enter f args) w) (h : ∀ (l d : Nat) (Lp : Loop) (W1 : World), Ca n b.toList assign body E Lp → ST dd F w W1 μ ((l, .loop Lp) :: (d, .deferred (some [])) :: L) →
   Calls P f (#[.func (.yield l) #[] #[]] ++ caps) W1 fun e w => (∃ v, e = .returned v) ∧ Ek l (Q [{ target := .collected d, args := #[] }]) E w) : w4 P n (.rangeFunc g b assign body) Q E W :=
 yr i he fun fn tmps j c => by
  have h1 := (a.alloc (.deferred (some []))).alloc (.loop { state := .ready, pending := none, fn, tmps, params := b, assign, body, defers := W.heap.size })
  rw [World.size_alloc] at h1
  exact h _ _ _ _ ⟨rfl, rfl, rfl, rfl, rfl, j, c⟩ h1
theorem yn {l : Nat} {f : FuncId} {tmps : Array Value} {assign body : Code} {K : Value → World → Prop} (m : tmps.size = n) (i : ∀ t, tmps.getD t undef = E t) (h : @CW (xR l) P n assign (fun e E1 W1 => e = .normal ∧ ∃ r, W1.heap[l]? = some (.loop r) ∧ r.state = .ready ∧ @CW (xR l) P n body (ES l K) E1 (W1.putObj l (.loop { r with state := .busy }))) E W) :
  RoundIn Fence.wide 0 P l f tmps assign body W fun e o => ∃ v, e = .returned v ∧ K v o := by
 refine roundIn_of_wpIn trivial (dp (h _ ⟨m, rfl, i⟩) ?_)
 intro e a w b
 cases e with
 | normal =>
  obtain ⟨E1, j, _, r, h1, d, g⟩ := b
  refine ⟨_, run_beginRound h1 d, dp (g a j) ?_⟩
  intro e a w b
  cases e with
  | normal => obtain ⟨E2, _, r, h1, d⟩ := b; exact ⟨_, _, run_endRound none h1, _, rfl, d⟩
  | ret => obtain ⟨E2, _, r, h1, d⟩ := b; exact ⟨_, _, run_endRound (some .ret) h1, _, rfl, d⟩
  | exit id => obtain ⟨E2, _, r, h1, d⟩ := b; exact ⟨_, _, run_endRound (some (.exit id)) h1, _, rfl, d⟩
  | goto t => obtain ⟨E2, _, h⟩ := b; exact h.elim
  | panic c => exact b.2.elim
  | outgrown => exact b.elim
 | panic c => exact absurd b.2.1 (by simp)
 | outgrown => exact b.elim
 | _ => obtain ⟨E', k, h1, _⟩ := b; cases h1
def Dm (P : Program) (fn : Func) (R : Ending → World → Prop) (D : List Deferred) : jW := fun e E W =>
 (D = [] ∧ oG P fn R e E W) ∨ ∃ d, D = [{ target := .collected d, args := #[] }] ∧ W.heap[d]? = some (.deferred (some [])) ∧ oG P fn R e E (W.putObj d (.deferred none))
theorem zy {f : FuncId} {fn : Func} {args : List Value} {w : World} {R : Ending → World → Prop} (r : P.funcs[f]? = some fn) (q : fn.body = some c) (s : fn.ntmps = n) (p : args.length ≤ n) (h : w4 P n c (fun D => Dm P fn R D) (qn args) w) : Calls P f args.toArray w R := by
 refine dZ.1 (callsIn_of_wp_marks (n := 0) r q trivial (dp (h _ (Dh s p)) ?_))
 intro e a w ⟨D, b⟩
 have key : ∀ (E : Nat → Value) (e : Exit), (e = .normal ∨ e = .ret) → @Ag (Cf D) n a E → Dm P fn R D e E w → LeavesInM Fence.wide 0 P fn a.tmps R a.defers .returning w := by
  intro E e he j u
  rw [j.2.1]
  show LeavesInM Fence.wide 0 P fn a.tmps R D .returning w
  have k : ∀ w, oG P fn R e E w → LeavesInM Fence.wide 0 P fn a.tmps R [] .returning w := fun w h => by
   have i : ∃ v, (∀ tmps : Array Value, (∀ t, tmps.getD t undef = E t) → (results fn tmps).run P w = .ok v w) ∧ R (.returned v) w := by
    rcases he with rfl | rfl <;> exact h
   obtain ⟨v, m, o⟩ := i
   exact ⟨v, m _ j.2.2, o⟩
  rcases u with ⟨rfl, h⟩ | ⟨d, rfl, h1, i⟩
  ·exact k _ h
  ·refine ⟨by simp, .inl ⟨d, _, rfl, run_takeDeferred h1, k _ i⟩⟩
 cases e with
 | normal => obtain ⟨E, g, h⟩ := b; exact key E _ (.inl rfl) g h
 | ret => obtain ⟨E, g, h⟩ := b; exact key E _ (.inr rfl) g h
 | exit id => obtain ⟨E, g, h⟩ := b; rcases h with ⟨_, h⟩ | ⟨_, _, _, h⟩ <;> exact h.elim
 | goto l => obtain ⟨E, g, h⟩ := b; rcases h with ⟨_, h⟩ | ⟨_, _, _, h⟩ <;> exact h.elim
 | panic c => rcases b.2 with ⟨_, h⟩ | ⟨_, _, _, h⟩ <;> exact h.elim
 | outgrown => exact b.elim
end
def CE {σ ρ : Type} (l : Nat) (Lp : Loop) (I : σ → List (Nat × Obj) → Prop) (X : ρ → List (Nat × Obj) → Prop) : σ ⊕ ρ → List (Nat × Obj) → Prop
 | .inl s, R => ∃ R0, R = (l, .loop Lp) :: R0 ∧ I s R0
 | .inr q, R => ∃ R0 r, R = (l, .loop r) :: R0 ∧ r.state = .done ∧ r.pending = some .ret ∧ X q R0
def vo {σ ρ α : Type} (fs : σ → α → Option (σ ⊕ ρ)) : σ ⊕ ρ → α → Option (Bool × (σ ⊕ ρ))
 | .inl s, x => (fs s x).map fun | .inl a => (true, .inl a) | .inr q => (false, .inr q)
 | .inr _, _ => none
def EP {σ ρ : Type} (w : World) (L0 : List (Nat × Obj)) (l : Nat) (Lp : Loop) (I : σ → List (Nat × Obj) → Prop) (X : ρ → List (Nat × Obj) → Prop) : σ ⊕ ρ → jW
 | .inl s, e, _, W => e = .normal ∧ ∃ μ L R, ST false (keys L0) w W μ L ∧ oJ L ((l, .loop { Lp with state := .busy }) :: R) ∧ I s R
 | .inr q, e, _, W => e = .ret ∧ ∃ μ L R, ST false (keys L0) w W μ L ∧ oJ L ((l, .loop { Lp with state := .busy }) :: R) ∧ X q R
section
variable {σ ρ α : Type} {P : Program} {n l : Nat} {Lp : Loop} {μ : gS} {I : σ → List (Nat × Obj) → Prop} {X : ρ → List (Nat × Obj) → Prop} {av : α → List Value} {fs : σ → α → Option (σ ⊕ ρ)} {E : Nat → Value}
theorem zq {L0 L R : List (Nat × Obj)} {w W : World} {μ : gS} {o o' : Obj} (h : ST false (keys L0) w W μ L) (b : oJ L ((l, o) :: R)) : W.heap[l]? = some o ∧ mL false L0 ((l, o') :: R) w (W.putObj l o') := by
 obtain ⟨M, hm⟩ := b
 have h1 := h.perm hm
 have a : ST false (keys L0) w W μ ([] ++ (l, o) :: (R ++ M)) := h1
 exact ⟨(h1.box l o (by simp)).1, ST.yB (L1 := (l, o') :: R) (L2 := M) (ST.setBlock (A := []) a o')⟩
theorem DW {w : List Nat} {assign body : Code} (G : Ca n w assign body E Lp) (U : ∀ x, (av x).length = w.length) (Q : ∀ p ∈ w, p < n) (h : ∀ W s x r R0, gZ μ (mG W ((l, .loop Lp) :: R0)) → I s R0 → fs s x = some r → ST false (keys ((l, .loop Lp) :: R0)) W W (mG W ((l, .loop Lp) :: R0)) ((l, .loop Lp) :: R0) →
   @CW (xR l) P n assign (fun e E1 W1 => e = .normal ∧ ∃ μ1 L1, gZ (mG W ((l, .loop Lp) :: R0)) μ1 ∧ ST false (keys ((l, .loop Lp) :: R0)) W W1 μ1 ((l, .loop Lp) :: L1) ∧
    ∀ W2, ST false (keys ((l, .loop Lp) :: R0)) W W2 μ1 ((l, .loop { Lp with state := .busy }) :: L1) → @CW (xR l) P n body (EP W ((l, .loop Lp) :: R0) l Lp I X r) E1 W2) (Ep E (w.zip (av x))) W) :
  wA P (.func (.yield l) #[] #[]) μ (CE l Lp I X) av (fun b => .bool b) (vo fs) := by
 obtain ⟨T, hp, rfl, rfl, rfl, ht, hE⟩ := G
 refine ⟨l, rfl, fun W s x r R hs y hH hN J => ?_⟩
 cases s with
 | inr q => cases J
 | inl s =>
  obtain ⟨R0, rfl, y⟩ := y
  have O : ∃ g, fs s x = some g ∧ r = (match g with | .inl k => (true, .inl k) | .inr q => (false, .inr q)) := by
   simp only [vo, Option.map_eq_some_iff] at J
   obtain ⟨g, h1, i⟩ := J
   exact ⟨g, h1, by rw [← i]⟩
  obtain ⟨g, L, rfl⟩ := O
  have hl : W.heap[l]? = some (.loop Lp) := hH _ _ (.head _)
  have u := AH (M := xR l) (Lp.params.toList.zip (av x)) (a := ⟨Lp.tmps, []⟩) (E := E) ⟨ht, rfl, hE⟩ (fun p hp => Q _ (List.of_mem_zip hp).1)
  refine ⟨_, _, _, _, run_yield hl (by simp [U x]), ?_⟩
  have ez : (Lp.params.zip (av x).toArray).foldl (fun tmps (t, a) => tmps.setIfInBounds t a) Lp.tmps = (Lp.params.toList.zip (av x)).foldl (fun t p => t.setIfInBounds p.1 p.2) Lp.tmps := by
   rw [← Array.foldl_toList]; simp
  rw [ez]
  have o : ST false (keys ((l, .loop Lp) :: R0)) W W (mG W ((l, .loop Lp) :: R0)) ((l, .loop Lp) :: R0) := ST.BY hH hN
  refine RoundIn.mono (yn (K := fun v w' => ∃ R', mL false ((l, .loop Lp) :: R0) R' W w' ∧ v = .bool (match g with | .inl k => (true, Sum.inl k) | .inr q => (false, .inr q)).1 ∧ CE l Lp I X (match g with | .inl k => (true, Sum.inl k) | .inr q => (false, .inr q)).2 R') u.1 u.2.2 (tr (M := xR l) (h W s x g R0 hs y L o) ?_)) ?_
  ·rintro e E1 W1 ⟨rfl, μ1, L1, a1, m, hK⟩
   refine ⟨rfl, Lp, (m.box l _ (.head _)).1, T, tr (M := xR l) (hK _ (ST.setBlock (A := []) m _)) ?_⟩
   intro e E3 W3 Z
   cases g with
   | inl k =>
    obtain ⟨rfl, Y, L3, R3, c, d, j⟩ := Z
    obtain ⟨h1, i⟩ := zq (o' := .loop Lp) c d
    refine ⟨_, h1, _, ?_, rfl, R3, rfl, j⟩
    obtain ⟨st, pe, c1, c2, c3, c4, c5, c6⟩ := Lp
    simp only at T hp
    subst T hp
    exact i
   | inr q =>
    obtain ⟨rfl, Y, L3, R3, c, d, j⟩ := Z
    obtain ⟨h1, i⟩ := zq (o' := .loop { Lp with state := .done, pending := some .ret }) c d
    exact ⟨_, h1, _, i, rfl, R3, _, rfl, rfl, rfl, j⟩
  ·rintro e w' ⟨v, rfl, R', h1, i, h3⟩
   exact ⟨v, R', rfl, h1, i, h3⟩
def qS {a α : Type} (fs : a → α → Option (Bool × a)) : a → List α → Option a
 | s, [] => some s
 | s, x :: o => match fs s x with
  | some (true, b) => qS fs b o
  | some (false, b) => some b
  | none => none
end
theorem perm_nil {α : Type} (l : List α) : l.Perm (l ++ []) := by rw [aU]
abbrev AP (α : Type) (a : Nat) : List α → α → Option (List α ⊕ Empty) := fun s x => (je a s [x]).map Sum.inl
theorem wJ {α : Type} {a : Nat} {l : List α} (h1 : l.length * a ≤ 140737488355328) (b : l.length ≤ maxLen) : ∀ (o s : List α), (s ++ o).length ≤ l.length → qS (vo (AP α a)) (.inl s) o = some (.inl (s ++ o))
 | [], s, _ => by rw [aU]; rfl
 | x :: o, s, h => by
  have c : je a s [x] = some (s ++ [x]) := DH h1 b (by simp at h ⊢; omega)
  have d : vo (AP α a) (.inl s) x = some (true, .inl (s ++ [x])) := by simp [vo, AP, c]
  simp only [qS, d]
  rw [wJ h1 b o (s ++ [x]) (by simpa [ar] using h), ar]
  rfl
theorem BW {P : Program} {W : World} {f : FuncId} {fn : Func} {b : Nat} {es : Array MapEntry} {clock : Nat} (d : P.funcs[f]? = some fn) (a : (fn.name == "runtime.NumGoroutine") = false) (c : fn.body.isNone = true) (i : Extern.findNext fn = none) (he : Extern.find fn = some Extern.MapsClone.clone) (t : TypeId) (h : W.heap[b]? = some (.map es clock)) :
  (callFunc f #[.iface t (.map (some b))]).run P W = .ok (.value (.iface t (.map (some W.heap.size)))) (W.alloc (.map es clock)) := by
 rw [dP d a c i he]
 have e : Extern.MapsClone.clone #[.iface t (.map (some b))] = (getObj b >>= fun o => match o with
   | .map entries clock => (newObj (.map entries clock) >>= fun n => pure (.iface t (.map (some n))))
   | _ => stuck "maps.clone: a map expected") := rfl
 rw [e]
 have g : (getObj b : Sem Obj).run P W = .ok (.map es clock) W := by simp [getObj, Sem.run, h]
 simp [g, run_newObj_alloc]
section
variable {P : Program} {E : Nat → Value} {W : World} {d : Option Nat} {ty : TypeId} {pos : String} {af : Array Edge} {g : Option (Nat × Bool)} {dd : Bool} {F : Nat → Prop} {w : World} {μ : gS} {L : List (Nat × Obj)}
theorem DN {K : Value → World → Prop} {fv x : Operand} {ats : Array TypeId} {f : FuncId} {t : TypeId} {b : Nat} {es : Array MapEntry} {clock : Nat} (a : ST dd F w W μ L) (c : gz E fv = .func (.func f) #[] #[]) (j : gz E x = .iface t (.map (some b))) (i : (callFunc f #[.iface t (.map (some b))]).run P W = .ok (.value (.iface t (.map (some W.heap.size)))) (W.alloc (.map es clock))) (h : ∀ W' m, ST dd F w W' μ ((m, .map es clock) :: L) → K (.iface t (.map (some m))) W') : jh P E ⟨d, .call ⟨.value fv, #[x], ats⟩, ty, pos, af, g⟩ W K := by
 refine .inl ⟨_, _, ?_, h _ _ (a.alloc _)⟩
 show (do let d ← resolve (gz E) ⟨.value fv, #[x], ats⟩ ty; invoke d.target d.args : Sem Next).run P W = _
 rw [← i]
 simp [resolve, c, j, Deferred.ofValue, invoke]
theorem Af {a t k e : TypeId} {x : Operand} {v : Value} (b : P.underlying t = some (.map k e)) (c : gz E x = .iface t v) : iu P E ⟨d, .typeAssert x a t false, ty, pos, af, g⟩ W v W := by
 show (do pure (.value (← Instr.typeAssert (gz E x) a t false)) : Sem Next).run P W = _
 rw [c]
 simp [Instr.typeAssert, al b]
end
def xn {κ γ : Type} (beq : κ → κ → Bool) (kenc : κ → Value) (vf : γ → Value) (a : Value) (l : List (κ × γ)) (k : κ) (x : γ) (st : Nat) (R : List (Nat × Obj)) : Prop :=
 ∃ m es clock i e, a = .map (some m) ∧ R = [(m, .map es clock)] ∧ mo kenc vf (iN beq l k x) es clock ∧ es[i]? = some e ∧ e.born = st ∧ (iN beq l k x).findIdx? (fun p => beq k p.1) = some i
section
variable {κ γ : Type} {vf : γ → Value} {beq : κ → κ → Bool} {kenc : κ → Value}
variable {dd : Bool} {P : Program} {W : World} {kt : TypeId} {E : Nat → Value} {d : Option Nat} {ty : TypeId} {pos : String} {af : Array Edge} {g : Option (Nat × Bool)} {F : Nat → Prop} {w : World} {μ : gS} {L : List (Nat × Obj)}
theorem An (hk : ∀ {x y : κ}, beq x y = true ↔ x = y) (l : List (κ × γ)) (k : κ) (x : γ) : ∃ i, (iN beq l k x).findIdx? (fun p => beq k p.1) = some i ∧ (iN beq l k x)[i]? = some (k, x) := by
 cases a : l.findIdx? (fun p => beq k p.1) with
 | none =>
  rw [mW a]
  refine ⟨l.length, ?_, by simp⟩
  rw [df, a]
  simp [cv, hk]
 | some i =>
  obtain ⟨p, hp, _⟩ := kC a
  rw [kk a]
  have d := (aw.1 hp).1
  refine ⟨i, ?_, by simp [d]⟩
  rw [bw] at a ⊢
  obtain ⟨h1, g, b⟩ := a
  refine ⟨by simpa using h1, by simp [hk], fun j c => ?_⟩
  rw [dQ (by omega)]
  exact b j c
theorem CN (hk : ∀ {x y : κ}, beq x y = true ↔ x = y) (l : List (κ × γ)) (k : κ) (x : γ) : gV beq (iN beq l k x) k = some x := by
 obtain ⟨i, h1, a⟩ := An hk l k x
 exact qv h1 a
theorem xn.row {a : Value} {l : List (κ × γ)} {k : κ} {x : γ} {st : Nat} {R : List (Nat × Obj)} (h : xn beq kenc vf a l k x st R) : gW kenc vf a (iN beq l k x) R := by
 obtain ⟨m, es, clock, i, e, h1, b, c, _⟩ := h
 exact ⟨m, es, clock, h1, b, c⟩
theorem vO {Kk : Value → World → Prop} {Y R : List (Nat × Obj)} {t e : TypeId} {m x : Operand} {mv : Value} {x0 : γ} {l : List (κ × γ)} {k : κ} (hk : ∀ {x y : κ}, beq x y = true ↔ x = y) (K : jC P kt kenc beq) (ht : P.underlying t = some (.map kt e)) (hz : ∀ w, (zeroValue e).run P w = .ok (vf x0) w) (I : ST dd F w W μ (R ++ Y)) (h : gW kenc vf mv l R) (hm : gz E m = mv) (hx : gz E x = kenc k) (Q : ∀ W' st R', ST dd F w W' μ (R' ++ Y) → xn beq kenc vf mv l k (iP beq l k x0) st R' → Kk (.tuple #[vf (iP beq l k x0), .int .i64 (st : Nat)]) W') : jh P E ⟨d, .mapEntry t m x, ty, pos, af, g⟩ W Kk := by
 obtain ⟨o, es, clock, rfl, rfl, r⟩ := h
 have s : ST dd F w W μ ([] ++ (o, .map es clock) :: Y) := I
 have T : W.heap[o]? = some (.map es clock) := (I.box o (.map es clock) (by simp)).1
 have h5 : (getObj o : Sem Obj).run P W = .ok (.map es clock) W := by simp [getObj, Sem.run, T]
 have A := K.find k _ _ r.keys W
 rw [r.get k] at A
 have u : ∀ W' v, (Instr.mapEntry t (.map (some o)) (kenc k)).run P W = .ok v W' → (execOp (gz E) ⟨d, .mapEntry t m x, ty, pos, af, g⟩).run P W = .ok (.value v) W' := by
  intro W' v hr
  show (do pure (.value (← Instr.mapEntry t (gz E m) (gz E x))) : Sem Next).run P W = _
  rw [hm, hx]
  simp [hr]
 obtain ⟨ix, a1, a6⟩ := An hk l k (iP beq l k x0)
 cases b : l.findIdx? (fun p => beq k p.1) with
 | none =>
  have Z : iP beq l k x0 = x0 := by rw [iP, sD b]; rfl
  rw [b] at A
  have a := r.put (beq := beq) k x0
  rw [b] at a
  rw [Z] at a1 a6 Q
  have n : iN beq l k x0 = l ++ [(k, x0)] := mW b x0
  refine .inl ⟨_, ChangeMaps.setBlock W o (.map (es.push { key := kenc k, val := vf x0, born := clock }) (clock + 1)), u _ (.tuple #[vf x0, .int .i64 (clock : Nat)]) ?_, Q _ clock [(o, .map (es.push { key := kenc k, val := vf x0, born := clock }) (clock + 1))] (s.setBlock _) ⟨o, _, _, es.size, { key := kenc k, val := vf x0, born := clock }, rfl, rfl, by rw [n]; exact a, by simp, rfl, ?_⟩⟩
  ·simp [Instr.mapEntry, al ht, h5, K.check, A, nB T, hz _, goInt]
  ·rw [n, df, b]
   have O := r.length
   simp [cv, hk, O]
 | some i =>
  obtain ⟨p, hp, U⟩ := kC b
  have Z : iP beq l k x0 = p.2 := by rw [iP, qv b hp]; rfl
  rw [b] at A
  have a := r.put (beq := beq) k p.2
  rw [b] at a
  have n : iN beq l k p.2 = l.set i (k, p.2) := kk b p.2
  have O := r.length
  have a7 : i < l.length := (aw.1 hp).1
  obtain ⟨G, c⟩ : ∃ G, es[i]? = some G := ⟨es[i], cW (by omega)⟩
  have J := ap (fun q => q[i]?) r.qX
  simp only [bX, bd, c, hp, bA, dy, ew] at J
  simp only [aa, hp, bA] at A
  have L : ((es[i]?).map (·.key)).getD (kenc k) = kenc k := by
   rw [c]
   simp only [bA, dH, J.1]
   exact K.eq k p.1 U
  have M : es.modify i (fun e => { e with key := kenc k }) = es.modify i (fun e => { e with key := kenc k, val := vf p.2 }) := qy fun e he => by
   rw [c] at he; cases he
   rw [← J.2]
  rw [Z] at Q
  refine .inl ⟨_, ChangeMaps.setBlock W o (.map (es.modify i fun e => { e with key := kenc k, val := vf p.2 }) clock), u _ (.tuple #[vf p.2, .int .i64 (G.born : Nat)]) ?_, Q _ G.born [(o, .map (es.modify i fun e => { e with key := kenc k, val := vf p.2 }) clock)] (s.setBlock _) ⟨o, _, _, i, { G with key := kenc k, val := vf p.2 }, rfl, rfl, by rw [n]; exact a, ?_, rfl, ?_⟩⟩
  ·simp only [Instr.mapEntry, aQ, al ht, h5, K.check, A, aH, L, Instr.keyThatStays, K.bits, aY, bq]
   rw [nB T, M]
   simp [c, goInt]
  ·rw [bV, ak rfl, c]; rfl
  ·rw [n]
   rw [bw] at b ⊢
   obtain ⟨h1, r, h3⟩ := b
   refine ⟨by simpa using h1, by simp [hk], fun j J => ?_⟩
   rw [dQ (by omega)]
   exact h3 j J
theorem ux {L : Value → World → Prop} {Y R : List (Nat × Obj)} {t : TypeId} {m s y : Operand} {J : Value} {x z : γ} {l : List (κ × γ)} {k : κ} {st : Nat} (hk : ∀ {x y : κ}, beq x y = true ↔ x = y) (K : jC P kt kenc beq) (n : ST dd F w W μ (R ++ Y)) (h : xn beq kenc vf J l k x st R) (hm : gz E m = J) (Z : gz E s = .int .i64 (st : Nat)) (hy : gz E y = vf z) (U : ∀ W' R', ST dd F w W' μ (R' ++ Y) → gW kenc vf J (iN beq l k z) R' → L undef W') : jh P E ⟨d, .entryStore t m s y, ty, pos, af, g⟩ W L := by
 obtain ⟨j, es, clock, i, Q, rfl, rfl, A, c, b, I⟩ := h
 have o : ST dd F w W μ ([] ++ (j, .map es clock) :: Y) := n
 have M : W.heap[j]? = some (.map es clock) := (n.box j (.map es clock) (by simp)).1
 have T : (getObj j : Sem Obj).run P W = .ok (.map es clock) W := by simp [getObj, Sem.run, M]
 obtain ⟨p, hp, G⟩ := kC I
 have O := ap (fun q => q[i]?) A.qX
 simp only [bX, bd, c, hp, bA, dy, ew] at O
 have a := A.put (beq := beq) k z
 rw [I] at a
 have v : es.modify i (fun e => { e with val := vf z }) = es.modify i (fun e => { e with key := kenc k, val := vf z }) := qy fun e he => by
  rw [c] at he; cases he
  have r : Q.key = kenc k := by rw [O.1]; exact K.eq k p.1 G
  rw [← r]
 have u := xO A.born c
 rw [b] at u
 refine .inr (.inl ⟨ChangeMaps.setBlock W j (.map (es.modify i fun e => { e with key := kenc k, val := vf z }) clock), ?_, U _ [(j, .map (es.modify i fun e => { e with key := kenc k, val := vf z }) clock)] (o.setBlock _) ⟨j, _, _, rfl, rfl, ?_⟩⟩)
 ·show (do Instr.entryStore t (gz E m) (gz E s) (gz E y); pure .skip : Sem Next).run P W = _
  rw [hm, Z, hy]
  simp only [Instr.entryStore, aQ, T, aH, asInt, asIntOf, bq, u]
  rw [nB M, v]
  rfl
 ·rw [← uF (fun x => hk.2 rfl) l k x z, kk I]; exact a
theorem zh {t e : TypeId} {m x : Operand} {a : Value} {l : List (κ × γ)} {k : κ} {x0 : γ} {st : Nat} {R : List (Nat × Obj)} (hk : ∀ {x y : κ}, beq x y = true ↔ x = y) (K : jC P kt kenc beq) (i : P.underlying t = some (.map kt e)) (n : ∀ w, (zeroValue e).run P w = .ok (vf x0) w) (hm : gz E m = a) (j : gz E x = kenc k) (h : xn beq kenc vf a l k (iP beq l k x0) st R) (c : ∀ b o, (b, o) ∈ R → W.heap[b]? = some o) : iu P E ⟨d, .lookup t m x false, ty, pos, af, g⟩ W (vf (iP beq l k x0)) W := by
 have := oz (d := d) (ty := ty) (pos := pos) (af := af) (g := g) K i n hm j (h.row.at c)
 rwa [show iP beq (iN beq l k (iP beq l k x0)) k x0 = iP beq l k x0 by rw [iP, CN hk]; rfl] at this
end
end Go.Proofs.YtbnbdigcbldfhaaGreat
namespace Go.Proofs.YtbnbdigcbldfhaaGreat
open Go.IntKind renaming wrap → wi0
open Go.Sort Go.Proofs Go.Shelf
theorem wi {g b : Nat} {o : Obj} : keys [(g, o)] b ↔ b = g := by
 constructor
 ·rintro ⟨o', h⟩
  simp at h
  exact h.1
 ·rintro rfl; exact ⟨o, by simp⟩
theorem sY (w : World) (g m : Nat) (f : Array Value → Array Value) (os : Array Obj) (b : Nat) (c : b < w.heap.size) :
  (Go.Sort.grow (mapBlock (Go.Sort.ahead w m) g f) os).heap[b]? = if g = b then w.heap[b]?.map (onCells f) else w.heap[b]? := by
 have a : b < (mapBlock (Go.Sort.ahead w m) g f).heap.size := by simp only [mapBlock, Go.Sort.ahead, Array.size_modify]; exact c
 rw [heap_grow_old _ _ a]
 simp only [mapBlock, Go.Sort.ahead, bV]
theorem vI {w : World} {g m : Nat} {f : Array Value → Array Value} {os : Array Obj} {cs : Array Value} {T : TypeId} {fr : Nat × Nat} (c : w.heap[g]? = some (.cells cs T fr)) :
  mL true [(g, .cells cs T fr)] [(g, .cells (f cs) T fr)] w (Go.Sort.grow (mapBlock (Go.Sort.ahead w m) g f) os) := by
 have a : g < w.heap.size := (bp.1 c).1
 refine ⟨⟨rfl, rfl, rfl, ?_, ?_, fun b d i => ?_⟩, fun b o h => ?_, by simp⟩
 ·refine ng.of ?_
  show w.drawn ≤ w.drawn + m
  omega
 ·show w.heap.size ≤ (w.heap.modify g (onCells f) ++ os).size
  simp
 ·rw [sY _ _ _ _ _ _ d, ai fun h => i (wi.2 h.symm)]
 ·simp only [ah, bU, dR, ew] at h
  obtain ⟨rfl, rfl⟩ := h
  refine ⟨?_, .inr (wi.2 rfl)⟩
  rw [sY _ _ _ _ _ _ a, ak rfl, c]
  rfl
theorem A1 {w W : World} (h : Ex true w W) : ∃ q os, W = Go.Sort.grow (w.drewN q) os := by
 refine ⟨W.drawn - w.drawn, W.heap.extract w.heap.size W.heap.size, ?_⟩
 have d : W.heap = w.heap ++ W.heap.extract w.heap.size W.heap.size := by
  apply Array.ext_getElem?
  intro i
  rw [ek]
  split
  ·rename_i g; exact h.iG i g
  ·rename_i g
   rw [Array.getElem?_extract]
   have k := h.size
   split
   ·rw [show w.heap.size + (i - w.heap.size) = i by omega]
   ·exact Array.getElem?_eq_none (by omega)
 obtain ⟨h1, l, m, n, o⟩ := W
 have a := h.os; have b := h.tape; have c := h.output; have j := h.drawn rfl
 simp only at a b c j d
 unfold Go.Sort.grow World.drewN
 simp only [World.mk.injEq]
 exact ⟨d, b, by omega, a, c⟩
theorem AG {α : Type} [Inhabited α] {enc : α → List Value} {k : Nat} (hk : ∀ x, (enc x).length = k) (l : List α) (j : Nat) (a : j < l.length * k) :
  (l.map enc).flatten[j]? = some ((flatK enc k l.toArray)[j]!) := by
 have d : 0 < k := by
  cases k with
  | zero => simp at a
  | succ n => omega
 have h1 : j / k < l.length := (Nat.div_lt_iff_lt_mul d).2 a
 rw [get_flatK _ _ _ _ (by simpa using a)]
 have g : l.toArray[j / k]! = l[j / k] := by
  rw [fY l.toArray (j / k) (by simpa using h1)]; simp
 rw [g]
 have b : j % k < (enc l[j / k]).length := by rw [hk]; exact Nat.mod_lt _ d
 have c := pZ hk l (j / k) l[j / k] (bE h1) (j % k) ((enc l[j / k])[j % k]) (bE b)
 rw [Nat.div_add_mod' j k] at c
 rw [c, fY (enc l[j / k]) (j % k) b]
theorem yw {α : Type} [Inhabited α] {enc : α → List Value} {k : Nat} (hk : ∀ x, (enc x).length = k) {w : World} {g : Nat} {cs : Array Value} {T : TypeId} (b : w.heap[g]? = some (.cells cs T (0, 0))) (l : List α)
  (d : cs.toList.take (l.length * k) = (l.map enc).flatten) : HoldsK enc k w g 0 l.toArray := by
 intro j c
 have a : j < l.length * k := by simpa using c
 have h1 := AG hk l j a
 rw [← d, cH, ak a] at h1
 refine ⟨?_, ?_⟩
 ·simp only [World.cell?, b, de]
  simpa using h1
 ·simp [World.frozen?, b]
theorem Ai {α : Type} [Inhabited α] {enc : α → List Value} {k : Nat} (hk : ∀ x, (enc x).length = k) {cs : Array Value} (l : List α) (b : l.length * k ≤ cs.size) :
  (putCells id 0 (flatK enc k l.toArray) cs).toList.take (l.length * k) = (l.map enc).flatten := by
 apply cy
 intro j
 rw [cH]
 split
 ·rename_i a
  rw [AG hk l j a]
  simp only [putCells, bd, Array.getElem?_mapIdx, size_flatK, cg]
  rw [cW (by omega)]
  simp [a]
 ·rename_i a
  rw [cA (by rw [lu hk]; omega)]
theorem yy (enc : Value → Value) (o : Nat) (d c : Array Value) : (putCells enc o d c).size = c.size := by simp [putCells]
section
variable {α : Type} {P : Program} {ρ : Ren}
theorem EA {l : List α} {cf : α × α → Option Int} (h : tE cf l) : SWO (ltOf fun (x y : {x // x ∈ l}) => (cf (x.1, y.1)).getD 0) ∧
  (∀ x y : {x // x ∈ l}, ltOf (fun (x y : {x // x ∈ l}) => (cf (x.1, y.1)).getD 0) x y = mn cf x.1 y.1) := by
 have e : ∀ x y : {x // x ∈ l}, ltOf (fun (x y : {x // x ∈ l}) => (cf (x.1, y.1)).getD 0) x y = mn cf x.1 y.1 := fun x y => by
  obtain ⟨c, g⟩ := h.is x.1 x.2 y.1 y.2
  simp [ltOf, mn, g]
 refine ⟨⟨fun x => ?_, fun x y z => ?_, fun x y z => ?_⟩, e⟩
 ·rw [e]; exact h.irrefl _ x.2
 ·rw [e, e, e]; exact h.trans _ x.2 _ y.2 _ z.2
 ·rw [e, e, e]
  intro h1 b
  cases a : mn cf x.1 z.1 with
  | false => rfl
  | true =>
   cases d : mn cf y.1 x.1 with
   | true =>
    have := h.trans _ y.2 _ x.2 _ z.2 d a
    rw [b] at this; cases this
   | false =>
    have := h.total _ x.2 _ y.2 h1 d
    rw [this, b] at a; cases a
theorem vR (L : SlLaysF0.n6 P ρ) (k : Nat) (aE : ∀ w, (isAgg (ρ.t 24)).run P w = .ok true w) (zE : ∀ w, (Go.sizeOf (ρ.t 24)).run P w = .ok k w) {e : TypeId} (enc : α → List Value) (hk : ∀ x, (enc x).length = k) (h1 : ∀ x, ∀ u ∈ enc x, u.oneCell' = true) {v fv : Value} {l r : List α} {R : List (Nat × Obj)} {cf : α × α → Option Int} {w : World} {μ0 : gS} (hH : sW (R ++ []) w) (E : gZ μ0 (mG w (R ++ []))) (Y : gM e enc k v l R) (hc : wU P fv μ0 (fun (x : α × α) => [(.agg (enc x.1).toArray), (.agg (enc x.2).toArray)]) (fun (r : Int) => (.int .i64 r)) cf) (hm : qx cf l = some r) :
  ie true P (ρ.f 6) [v, fv] w (R ++ []) (fun u L1 _ => ∃ (S : List (Nat × Obj)), u = (.tuple #[]) ∧ L1 = (S ++ []) ∧ gM e enc k v r S) := by
 obtain ⟨ok, rfl⟩ := xh hm
 rw [aU] at hH E ⊢
 rcases cu l.length with h0 | i
 ·have hl : l = [] := bL h0
  subst hl
  have Z : lx cf ([] : List α) = [] := by simp [lx]
  rw [Z]
  obtain ⟨p, c, rfl⟩ : ∃ p c, v = .slice p 0 c := by
   rcases Y with ⟨rfl, _, _⟩ | ⟨g, cap, j, rfl, _⟩
   ·exact ⟨_, _, rfl⟩
   ·exact ⟨_, _, rfl⟩
  refine bf (AnyF.slices_SortFunc_none L p c fv w) fun x w' ⟨hx, hw⟩ => ?_
  subst hx hw
  refine ⟨_, R, rfl, ⟨⟨rfl, rfl, rfl, ng.of (aJ _), aJ _, fun _ _ _ => rfl⟩, fun b o h => ⟨hH b o h, .inr ⟨o, h⟩⟩, ?_⟩, R, rfl, (aU R).symm, Y⟩
  rcases Y with ⟨_, _, rfl⟩ | ⟨g, cap, j, _, rfl, _⟩ <;> simp
 ·rcases Y with ⟨_, rfl, _⟩ | ⟨g, cap, j, rfl, rfl, a8, a7, M, ao⟩
  ·simp at i
  have hg : w.heap[g]? = some (.cells j e (0, 0)) := hH g _ (by simp)
  have ab : g < w.heap.size := (bp.1 hg).1
  haveI : Inhabited {x // x ∈ l} := ⟨⟨l[0], List.getElem_mem i⟩⟩
  obtain ⟨gg, caps, rfl, O, q⟩ := hc
  obtain ⟨hO, Q⟩ := EA ok
  have G : l.attach.toArray.size = l.length := by simp
  have ad : l.attach.map (fun x => enc x.1) = l.map enc := by
   rw [show (fun x : {x // x ∈ l} => enc x.1) = enc ∘ Subtype.val from rfl, ← cQ, List.attach_map_subtype_val]
  have a1 : HoldsK (fun x : {x // x ∈ l} => enc x.1) k w g 0 l.attach.toArray := yw (fun x => hk x.1) hg l.attach (by rw [ad, List.length_attach, ao])
  have K : CmpLays P gg caps (fun x : {x // x ∈ l} => enc x.1) k (fun x y => (cf (x.1, y.1)).getD 0) g 0 l.attach.toArray.size w := by
   intro m os dk b0 x y
   obtain ⟨c, J⟩ := ok.is x.1 x.2 y.1 y.2
   have W : gZ μ0 (hp (sortWorldK (fun x : {x // x ∈ l} => enc x.1) k w g 0 m dk os)) := fun b o hb => by
    have A := E b o hb
    unfold mG at A
    split at A
    ·cases A
    ·rename_i hn
     have a6 : b < w.heap.size := (bp.1 A).1
     show (Go.Sort.grow (mapBlock (Go.Sort.ahead w m) g _) os).heap[b]? = _
     rw [sY _ _ _ _ _ _ a6, ai fun h => hn (wi.2 h.symm)]
     exact A
   have h3 := q (sortWorldK (fun x : {x // x ∈ l} => enc x.1) k w g 0 m dk os) (x.1, y.1) c W J
   have ea : ([Value.agg (enc x.1).toArray, Value.agg (enc y.1).toArray] ++ caps.toList).toArray = #[Value.agg (enc x.1).toArray, Value.agg (enc y.1).toArray] ++ caps := by
    apply Array.ext'; simp
   rw [← ea]
   exact bf h3 fun u W' hu => ⟨by rw [hu.1]; show _ = Ending.returned (.int .i64 ((cf (x.1, y.1)).getD 0)); rw [J]; rfl, A1 hu.2⟩
  have hT : ∀ x y : {x // x ∈ l}, ltOf (fun (x y : {x // x ∈ l}) => (cf (x.1, y.1)).getD 0) x y = false → ltOf (fun (x y : {x // x ∈ l}) => (cf (x.1, y.1)).getD 0) y x = false → x = y := fun x y a b => by
   rw [Q] at a b
   exact Subtype.ext (ok.total _ x.2 _ y.2 a b)
  have d := AnyQ.slices_SortFunc_total L k aE zE (fun x : {x // x ∈ l} => enc x.1) (fun x => hk x.1) (fun x => h1 x.1) (fun x y => (cf (x.1, y.1)).getD 0) hO gg caps g 0 cap l.attach.toArray w O K a1 ab (by rw [G]; exact ok.short) hT
  rw [G] at d
  refine bf d fun u w' ⟨hu, n, os, hw⟩ => ?_
  subst hu
  generalize Z : l.attach.toArray.toList.mergeSort (fun x y => !ltOf (fun (x y : {x // x ∈ l}) => (cf (x.1, y.1)).getD 0) y x) = s at hw
  have af : s.map Subtype.val = lx cf l := by
   rw [← Z, eW (s := fun x y => !mn cf y x) (fun a _ b _ => by rw [Q])]
   simp [lx]
  have U : s.length = l.length := by rw [← Z, eo]; simp
  have T : (lx cf l).length = l.length := by simp [lx, eo]
  have I := vI (w := w) (m := n) (f := putCells id 0 (flatK (fun x : {x // x ∈ l} => enc x.1) k s.toArray)) (os := os) hg
  have av : w' = Go.Sort.grow (mapBlock (Go.Sort.ahead w n) g (putCells id 0 (flatK (fun x : {x // x ∈ l} => enc x.1) k s.toArray))) os := hw
  rw [← av] at I
  refine ⟨_, _, rfl, I, _, rfl, (aU _).symm, .inr ⟨g, cap, _, by rw [T], rfl, by omega, a7, by rw [yy, M], ?_⟩⟩
  rw [T, ← U, Ai (fun x => hk x.1) s (by rw [U, M]; exact aS k a8), ← af, cQ]
  rfl
end
theorem uJ (b : ByteArray) : b.toList = b.data.toList := by rw [dj]
theorem yK (l : List ByteArray) : (l.map iQ).flatten = l.map Value.string := by
 induction l with
 | nil => rfl
 | cons x l ih => simp only [aM, bB, ih]; rfl
theorem yX (l : List ByteArray) : (iJ l).map (fun b => b.data.toList) = (l.map (fun b => b.data.toList)).mergeSort (fun x y => decide (x ≤ y)) := by
 unfold iJ
 refine eW fun a _ b _ => ?_
 unfold kw
 rw [bytesLess_eq, uJ, uJ]
 by_cases h : a.data.toList ≤ b.data.toList
 ·have c : ¬ b.data.toList < a.data.toList := List.not_lt.2 h
  simp [h, c]
 ·have c : b.data.toList < a.data.toList := by
   cases Decidable.em (b.data.toList < a.data.toList) with
   | inl d => exact d
   | inr d => exact absurd (List.not_lt.1 d) h
  simp [h, c]
section
variable {P : Program} {ρ : Ren}
theorem z6 (L : SlLaysM.n6 P ρ) {e : TypeId} {v : Value} {l r : List ByteArray} {R : List (Nat × Obj)} {w : World} (hH : sW (R ++ []) w) (E : gM e iQ 1 v l R) (hm : vy l = some r) :
  ie true P (ρ.f 6) [v] w (R ++ []) (fun u L1 _ => ∃ (S : List (Nat × Obj)), u = (.tuple #[]) ∧ L1 = (S ++ []) ∧ gM e iQ 1 v r S) := by
 unfold vy at hm
 split at hm
 ·rename_i k
  cases hm
  rw [aU] at hH ⊢
  rcases cu l.length with T | s
  ·have Y : l = [] := bL T
   subst Y
   have hs : iJ [] = [] := by simp [iJ]
   rw [hs]
   obtain ⟨p, c, rfl⟩ : ∃ p c, v = .slice p 0 c := by
    rcases E with ⟨rfl, _, _⟩ | ⟨g, cap, d, rfl, _⟩
    ·exact ⟨_, _, rfl⟩
    ·exact ⟨_, _, rfl⟩
   refine bf (AnyM.slices_Sort_string_none L p c w) fun x Q ⟨hx, hw⟩ => ?_
   subst hx hw
   refine ⟨_, R, rfl, ⟨⟨rfl, rfl, rfl, ng.of (aJ _), aJ _, fun _ _ _ => rfl⟩, fun b o h => ⟨hH b o h, .inr ⟨o, h⟩⟩, ?_⟩, R, rfl, (aU R).symm, E⟩
   rcases E with ⟨_, _, rfl⟩ | ⟨g, cap, d, _, rfl, _⟩ <;> simp
  ·rcases E with ⟨_, rfl, _⟩ | ⟨g, cap, d, rfl, rfl, Z, I, J, M⟩
   ·simp at s
   have y : w.heap[g]? = some (.cells d e (0, 0)) := hH g _ (by simp)
   have K : g < w.heap.size := (bp.1 y).1
   have G : Holds encStr w g 0 (l.map (fun b => b.data.toList)).toArray := by
    intro j A
    have i : j < l.length := by simpa using A
    have h1 : (d.toList.take (l.length * 1))[j]? = ((l.map iQ).flatten)[j]? := by rw [M]
    rw [yK, cH, ak (by omega), bX, bE i] at h1
    refine ⟨?_, by simp [World.frozen?, y]⟩
    simp only [World.cell?, y, de]
    rw [fY _ j A]
    simpa using h1
   have a := AnyM.slices_Sort_string L g 0 cap (l.map (fun b => b.data.toList)) w G K (by simpa using k)
   rw [bG, ← yX] at a
   refine bf a fun u Q ⟨hu, n, os, hw⟩ => ?_
   subst hu
   have t : (iJ l).length = l.length := by simp [iJ, eo]
   have q := vI (w := w) (m := n) (f := putCells encStr 0 ((iJ l).map (fun b => b.data.toList)).toArray) (os := os) y
   have O : Q = Go.Sort.grow (mapBlock (Go.Sort.ahead w n) g (putCells encStr 0 ((iJ l).map (fun b => b.data.toList)).toArray)) os := hw
   rw [← O] at q
   refine ⟨_, _, rfl, q, _, rfl, (aU _).symm, .inr ⟨g, cap, _, by rw [t], rfl, by omega, I, by simpa [putCells] using J, ?_⟩⟩
   rw [t, yK]
   apply cy
   intro j
   rw [cH]
   split
   ·rename_i A
    have i : j < (iJ l).length := by omega
    rw [bX, bE i]
    simp only [putCells, bd, Array.getElem?_mapIdx]
    rw [cW (by omega)]
    have U : j < ((iJ l).map (fun b => b.data.toList)).toArray.size := by simpa using i
    have W : 0 ≤ j ∧ j < 0 + ((iJ l).map (fun b => b.data.toList)).toArray.size := ⟨by omega, by omega⟩
    simp only [bA, ak W, Nat.sub_zero]
    rw [fY _ j U]
    simp
   ·rename_i A
    rw [cA (by simp; omega)]
 ·cases hm
end
end Go.Proofs.YtbnbdigcbldfhaaGreat
namespace Go.Proofs.YtbnbdigcbldfhaaGreat
open Go.IntKind renaming wrap → wi0
open Go.WideElems Go.WideShapes Go.Sort Go.Proofs Go.Shelf
theorem Ac {β : Type} {vf : β → Value} {P : Program} {kt : TypeId} (y : P.underlying kt = some .string) {l : List (ByteArray × β)} {es : Array MapEntry} {clock : Nat} (h : mo Value.string vf l es clock) (u : (l.map (·.1)).Nodup) (w : ∀ p ∈ l, p.1.size ≤ maxLen) (t : l.length ≤ maxLen) {W : World} {b : Nat} (r : W.heap[b]? = some (.map es clock)) : ∃ D : DataW Unit, W.ownsMap P kt (fun _ => some (.lit (.bool true), [])) b es.size D ∧ (strKeys D).Perm (l.map (fun p => p.1.data.toList)) ∧ Maps.size D = l.length := by
 have c := h.keys
 have m : ∀ x ∈ es.toList, ∃ s : ByteArray, x.key = .string s ∧ s.size ≤ maxLen := fun x i => by
  have h1 : x.key ∈ es.toList.map (·.key) := aK.2 ⟨x, i, rfl⟩
  rw [c] at h1
  obtain ⟨s, g, j⟩ := aK.1 h1
  obtain ⟨p, o, q⟩ := aK.1 g
  exact ⟨s, j.symm, by rw [← q]; exact w p o⟩
 have d : ∀ x ∈ es.toList, ∃ s : ByteArray, x.key = .string s ∧ Go.WideElems.rd (H := Unit) P kt (fun _ => some (.lit (.bool true), [])) x = some (.string s.data.toList, .lit (.bool true)) := fun x i => by
  obtain ⟨s, h1, g⟩ := m x i
  refine ⟨s, h1, ?_⟩
  simp [Go.WideElems.rd, keyOf, y, mapKey, h1, g]
 refine ⟨_, ⟨es, clock, r, ⟨by rw [h.length]; exact t, ⟨h.lt, ?_, ?_⟩, fun x i => ?_⟩, aJ _, rfl⟩, ?_, ?_⟩
 ·have := h.born
  rw [List.Nodup, ch]
  exact this.imp (fun {a b} h => by omega)
 ·rw [c]
  rw [List.Nodup, ch]
  exact u.imp (fun {a b} k e => k (by injection e))
 ·obtain ⟨s, _, g⟩ := d x i
  exact ⟨_, g⟩
 ·have h1 := (sorted_perm (es.toList.map (Go.WideElems.rg (H := Unit) P kt (fun _ => some (.lit (.bool true), []))))).map (fun p => strOf p.1)
  refine List.Perm.trans h1 ?_
  have e : (es.toList.map (Go.WideElems.rg (H := Unit) P kt (fun _ => some (.lit (.bool true), [])))).map (fun p => strOf p.1) = l.map (fun p => p.1.data.toList) := by
   have n : (es.toList.map (Go.WideElems.rg (H := Unit) P kt (fun _ => some (.lit (.bool true), [])))).map (fun p => strOf p.1) = (es.toList.map (·.key)).map (fun v => match v with | .string s => s.data.toList | _ => []) := by
    rw [cQ, cQ]
    refine eH fun x i => ?_
    obtain ⟨s, g, j⟩ := d x i
    simp [Go.WideElems.rg, j, g, strOf]
   rw [n, c, cQ, cQ]
   rfl
  rw [e]
 ·have h1 := (sorted_perm (es.toList.map (Go.WideElems.rg (H := Unit) P kt (fun _ => some (.lit (.bool true), []))))).length_eq
  show (List.foldr DataW.insert [] _).length = _
  rw [h1, bG, ← h.length]
  simp
theorem ym {l : List ByteArray} {g : List (List UInt8)} (h : g.Perm (l.map fun b => b.data.toList)) : g.mergeSort (fun x y => decide (x ≤ y)) = (iJ l).map (fun b => b.data.toList) := by
 rw [yX]
 have le : ∀ a b c : List UInt8, decide (a ≤ b) = true → decide (b ≤ c) = true → decide (a ≤ c) = true := fun a b c h1 d => by
  simp only [cO] at *
  exact List.le_trans h1 d
 have tot : ∀ a b : List UInt8, (decide (a ≤ b) || decide (b ≤ a)) = true := fun a b => by
  simp only [cZ, cO]
  exact List.le_total a b
 refine List.Perm.eq_of_pairwise (le := fun a b => decide (a ≤ b) = true) (fun a b _ _ h1 d => List.le_antisymm (by simpa using h1) (by simpa using d)) (dY le tot _) (dY le tot _) ?_
 exact (dn _ _).trans (h.trans (dn _ _).symm)
section
variable {P : Program} {ρk ρt ρm : Ren}
theorem zU (LK : SlLaysZ.n7 P ρk) (LT : SlLaysZ.n6 P ρt) (LM : SlLaysM.n6 P ρm) (h9 : ρt.f 9 = ρm.f 6) (hK : P.underlying (ρk.t 26) = some .string) (eg : ∀ args w, (callFunc (ρk.f 10) args).run P w = .ok (.enter (ρk.f 10) args) w) (es : ∀ args w, (callFunc (ρt.f 9) args).run P w = .ok (.enter (ρt.f 9) args) w) {β : Type} {vf : β → Value} {l : List (ByteArray × β)} {b : Nat} {mv : Value} {t : TypeId} {W : World} {r : List ByteArray} (u : W.heap[b]? = some (.cells #[mv] t (0, 0))) (hm : kL Value.string vf (hp W) mv l) (hk : wX l = some r) :
  iS false P (ρt.f 6) [.func (.func (ρk.f 10)) #[] #[.pointer (some ⟨b, 0, none⟩)]] W (ρt.t 26) iQ 1 r := by
 unfold wX at hk
 split at hk
 case isFalse => cases hk
 rename_i hc
 obtain ⟨T, U, Y⟩ := hc
 cases hk
 have i : b < W.heap.size := (bp.1 u).1
 have c : W.cell? ⟨b, 0, none⟩ = some mv := by simp [World.cell?, u]
 have q : AnyZ.SortsIn P ρt Fence.wide 4 :=
  ⟨fun M off cap d W hH hblk s => dZ.2 (by rw [h9]; exact AnyM.slices_Sort_string LM M off cap d W hH hblk s), fun p cap W => dZ.2 (by rw [h9]; exact AnyM.slices_Sort_string_none LM p cap W)⟩
 have K : SeqGives Fence.wide 2 P (ρk.f 10) #[.pointer (some ⟨b, 0, none⟩)] encStr (fun d => d.Perm ((l.map (·.1)).map fun b => b.data.toList)) l.length W := by
  rcases hm with ⟨rfl, rfl⟩ | ⟨m, es, clock, rfl, a6, E⟩
  ·have := AnyZ.keys_gives_nil (ρ := ρk) { LK with } Fence.wide 2 trivial rfl b W i c
   intro l' J W' Q O R L
   refine CallsIn.mono (this l' J W' Q O R L) ?_
   rintro e w' ⟨hv, d, rfl, hj⟩
   exact ⟨hv, [], cK _, hj⟩
  ·obtain ⟨D, G, n, s⟩ := Ac hK E T U (by unfold maxLen; omega) a6
   have := AnyZ.keys_gives (ρ := ρk) { LK with } Fence.wide 2 trivial rfl (by omega) b m es.size D W i c G
   intro l' J W' Q O R L
   refine CallsIn.mono (this l' J W' Q O (by rw [s]; exact R) L) ?_
   rintro e w' ⟨hv, d, hp, hj⟩
   refine ⟨hv, d, ?_, hj⟩
   rw [cQ]
   exact hp.trans n
 have cS := AnyZ.sorted_in LT Fence.wide 5 trivial trivial trivial trivial rfl (by omega) q es (ρk.f 10) #[.pointer (some ⟨b, 0, none⟩)] trivial eg _ l.length (by unfold maxLen; omega) Y W K
 refine bf (dZ.1 cS) ?_
 rintro e w' ⟨v, d, rfl, hS, I, a8, a⟩
 have hs := ym hS
 have hlen : d.length = (iJ (l.map (·.1))).length := by
  have := ap List.length hs
  simpa using this
 have k : (d.mergeSort (fun x y => decide (x ≤ y))).map encStr = ((iJ (l.map (·.1))).map iQ).flatten := by
  rw [hs, yK, cQ]
  refine eH (fun x _ => ?_)
  simp only [Function.comp, encStr]
 rcases I.2 with ⟨rfl, L⟩ | ⟨g, cap, A, rfl, j, hg, ab, Z, a1, a7⟩
 ·have : iJ (l.map (·.1)) = [] := bL (by omega)
  rw [this]
  exact ⟨_, [], rfl, mL.yD ⟨a.os, a.tape, a.output, fun h => (by cases h), a.size, fun b u => a.block b u⟩ (fun _ _ h => by cases h) (by simp), gM.nil _ _ _⟩
 ·refine ⟨_, [(g, .cells A (ρt.t 26) (0, 0))], rfl, mL.yD ⟨a.os, a.tape, a.output, fun h => (by cases h), a.size, fun b u => a.block b u⟩ (fun b o h => by simp at h; obtain ⟨rfl, rfl⟩ := h; exact ⟨hg, j⟩) (by simp), .inr ⟨g, cap, A, by rw [hlen], rfl, by omega, Z, a1, ?_⟩⟩
  rw [← hlen, a7, k]
end
end Go.Proofs.YtbnbdigcbldfhaaGreat
namespace Go.Proofs.YtbnbdigcbldfhaaGreat
open Go.IntKind renaming wrap → wi0
def dt := @Tryz.underlying9
def dv := @Tryz.zeroValue9
def dI := @Tryz.underlying0
def dU := @Tryz.zeroValue0
def ee := @Tryz.sizeOf9
def eu := @Tryz.underlying4
def eE := @Tryz.isAgg9
def eG := @Tryz.zeroValue4
def eP := @Tryz.sizeOf0
def eX := @Tryz.underlying215
def eY := @Tryz.underlying261
def eZ := @Tryz.underlying262
def fa := @Tryz.underlying268
def fb := @Tryz.underlying270
def fc := @Tryz.underlying291
def fe := @Tryz.underlying295
def fg := @Tryz.underlying315
def fh := @Tryz.underlying142
def fi := @Tryz.underlying112
def fy := @Tryz.isAgg0
def fz := @Tryz.zeroValue215
def fC := @Tryz.zeroValue261
def fD := @Tryz.zeroValue262
def fE := @Tryz.underlying39
def fF := @Tryz.zeroValue268
def fG := @Tryz.zeroValue270
def fH := @Tryz.zeroValue291
def fI := @Tryz.zeroValue295
def fJ := @Tryz.zeroValue315
def fK := @Tryz.zeroValue142
def fL := @Tryz.zeroValue112
def fU := @Tryz.underlying3
def fV := @Tryz.underlying5
def fW := @Tryz.zeroValue39
def fZ := @Tryz.sizeOf4
def gj := @Tryz.zeroValue3
def gk := @Tryz.zeroValue5
def gm := @Tryz.isAgg4
def BO : Go.Shelf.Ren := ⟨fun | 6 => 116 | 15 => 179 | 14 => 178 | 28 => 225 | 29 => 226 | 20 => 217 | 21 => 218 | 22 => 219 | 23 => 220 | 24 => 221 | 25 => 222 | 26 => 223 | 27 => 224 | 46 => 255 | 47 => 256 | 48 => 257 | 49 => 258 | 50 => 259 | 57 => 290 | n => n, fun | 22 => 22 | 24 => 108 | 25 => 133 | 3 => 3 | 39 => 215 | 0 => 0 | 53 => 268 | 55 => 270 | 4 => 4 | 46 => 262 | 45 => 261 | 50 => 39 | 5 => 5 | 9 => 9 | 66 => 291 | 70 => 295 | 76 => 315 | 77 => 142 | n => n, fun | n => n⟩
theorem E4 : Go.Proofs.SlLaysF0.n6 Tryz.prog BO := {
 mixed := by kernel_rfl,
 f6 := ⟨Tryz.f116.name, by decide, Tryz.func116.trans (ap some (by kernel_rfl))⟩,
 f14 := ⟨Tryz.f178.name, by decide, Tryz.func178.trans (ap some (by kernel_rfl))⟩,
 f15 := Tryz.func179.trans (ap some (by kernel_rfl)),
 f20 := ⟨Tryz.f217.name, by decide, Tryz.func217.trans (ap some (by kernel_rfl))⟩,
 f21 := ⟨Tryz.f218.name, by decide, Tryz.func218.trans (ap some (by kernel_rfl))⟩,
 f22 := ⟨Tryz.f219.name, by decide, Tryz.func219.trans (ap some (by kernel_rfl))⟩,
 f23 := ⟨Tryz.f220.name, by decide, Tryz.func220.trans (ap some (by kernel_rfl))⟩,
 f24 := ⟨Tryz.f221.name, by decide, Tryz.func221.trans (ap some (by kernel_rfl))⟩,
 f25 := ⟨Tryz.f222.name, by decide, Tryz.func222.trans (ap some (by kernel_rfl))⟩,
 f26 := ⟨Tryz.f223.name, by decide, Tryz.func223.trans (ap some (by kernel_rfl))⟩,
 f27 := ⟨Tryz.f224.name, by decide, Tryz.func224.trans (ap some (by kernel_rfl))⟩,
 f28 := Tryz.func225.trans (ap some (by kernel_rfl)),
 f29 := Tryz.func226.trans (ap some (by kernel_rfl)),
 f46 := ⟨Tryz.f255.name, by decide, Tryz.func255.trans (ap some (by kernel_rfl))⟩,
 f47 := Tryz.func256.trans (ap some (by kernel_rfl)),
 f48 := Tryz.func257.trans (ap some (by kernel_rfl)),
 f49 := ⟨Tryz.f258.name, by decide, Tryz.func258.trans (ap some (by kernel_rfl))⟩,
 f50 := ⟨Tryz.f259.name, by decide, Tryz.func259.trans (ap some (by kernel_rfl))⟩,
 f57 := ⟨Tryz.f290.name, by decide, Tryz.func290.trans (ap some (by kernel_rfl))⟩,
 t0 := dI,
 a0 := fy,
 z0 := eP,
 v0 := dU,
 t3 := fU,
 a3 := Tryz.isAgg3,
 z3 := Tryz.sizeOf3,
 v3 := gj,
 t4 := eu,
 a4 := gm,
 z4 := fZ,
 v4 := eG,
 t5 := fV,
 a5 := Tryz.isAgg5,
 z5 := Tryz.sizeOf5,
 v5 := gk,
 t9 := dt,
 a9 := eE,
 z9 := ee,
 v9 := dv,
 t22 := Tryz.underlying22,
 a22 := Tryz.isAgg22,
 z22 := Tryz.sizeOf22,
 v22 := Tryz.zeroValue22,
 t25 := Tryz.underlying133,
 a25 := Tryz.isAgg133,
 z25 := Tryz.sizeOf133,
 v25 := Tryz.zeroValue133,
 t39 := eX,
 a39 := Tryz.isAgg215,
 z39 := Tryz.sizeOf215,
 v39 := fz,
 t45 := eY,
 a45 := Tryz.isAgg261,
 z45 := Tryz.sizeOf261,
 v45 := fC,
 t46 := eZ,
 a46 := Tryz.isAgg262,
 z46 := Tryz.sizeOf262,
 v46 := fD,
 t50 := fE,
 a50 := Tryz.isAgg39,
 z50 := Tryz.sizeOf39,
 v50 := fW,
 t53 := fa,
 a53 := Tryz.isAgg268,
 z53 := Tryz.sizeOf268,
 v53 := fF,
 t55 := fb,
 a55 := Tryz.isAgg270,
 z55 := Tryz.sizeOf270,
 v55 := fG,
 t66 := fc,
 a66 := Tryz.isAgg291,
 z66 := Tryz.sizeOf291,
 v66 := fH,
 t70 := fe,
 a70 := Tryz.isAgg295,
 z70 := Tryz.sizeOf295,
 v70 := fI,
 t76 := fg,
 a76 := Tryz.isAgg315,
 z76 := Tryz.sizeOf315,
 v76 := fJ,
 t77 := fh,
 a77 := Tryz.isAgg142,
 z77 := Tryz.sizeOf142,
 v77 := fK}
def B4 : Go.Shelf.Ren := ⟨fun | 6 => 122 | 15 => 179 | 14 => 185 | 28 => 225 | 29 => 226 | 20 => 230 | 21 => 231 | 22 => 232 | 23 => 233 | 24 => 234 | 25 => 235 | 26 => 236 | 27 => 237 | 46 => 269 | 47 => 256 | 48 => 257 | 49 => 270 | 50 => 271 | 57 => 295 | n => n, fun | 22 => 25 | 24 => 30 | 25 => 119 | 3 => 3 | 39 => 215 | 0 => 0 | 53 => 268 | 55 => 270 | 4 => 4 | 46 => 262 | 45 => 261 | 50 => 39 | 5 => 5 | 9 => 9 | 66 => 291 | 70 => 295 | 76 => 315 | 77 => 142 | n => n, fun | n => n⟩
theorem EX : Go.Proofs.SlLaysF0.n6 Tryz.prog B4 := {
 mixed := by kernel_rfl,
 f6 := ⟨Tryz.f122.name, by decide, Tryz.func122.trans (ap some (by kernel_rfl))⟩,
 f14 := ⟨Tryz.f185.name, by decide, Tryz.func185.trans (ap some (by kernel_rfl))⟩,
 f15 := Tryz.func179.trans (ap some (by kernel_rfl)),
 f20 := ⟨Tryz.f230.name, by decide, Tryz.func230.trans (ap some (by kernel_rfl))⟩,
 f21 := ⟨Tryz.f231.name, by decide, Tryz.func231.trans (ap some (by kernel_rfl))⟩,
 f22 := ⟨Tryz.f232.name, by decide, Tryz.func232.trans (ap some (by kernel_rfl))⟩,
 f23 := ⟨Tryz.f233.name, by decide, Tryz.func233.trans (ap some (by kernel_rfl))⟩,
 f24 := ⟨Tryz.f234.name, by decide, Tryz.func234.trans (ap some (by kernel_rfl))⟩,
 f25 := ⟨Tryz.f235.name, by decide, Tryz.func235.trans (ap some (by kernel_rfl))⟩,
 f26 := ⟨Tryz.f236.name, by decide, Tryz.func236.trans (ap some (by kernel_rfl))⟩,
 f27 := ⟨Tryz.f237.name, by decide, Tryz.func237.trans (ap some (by kernel_rfl))⟩,
 f28 := Tryz.func225.trans (ap some (by kernel_rfl)),
 f29 := Tryz.func226.trans (ap some (by kernel_rfl)),
 f46 := ⟨Tryz.f269.name, by decide, Tryz.func269.trans (ap some (by kernel_rfl))⟩,
 f47 := Tryz.func256.trans (ap some (by kernel_rfl)),
 f48 := Tryz.func257.trans (ap some (by kernel_rfl)),
 f49 := ⟨Tryz.f270.name, by decide, Tryz.func270.trans (ap some (by kernel_rfl))⟩,
 f50 := ⟨Tryz.f271.name, by decide, Tryz.func271.trans (ap some (by kernel_rfl))⟩,
 f57 := ⟨Tryz.f295.name, by decide, Tryz.func295.trans (ap some (by kernel_rfl))⟩,
 t0 := dI,
 a0 := fy,
 z0 := eP,
 v0 := dU,
 t3 := fU,
 a3 := Tryz.isAgg3,
 z3 := Tryz.sizeOf3,
 v3 := gj,
 t4 := eu,
 a4 := gm,
 z4 := fZ,
 v4 := eG,
 t5 := fV,
 a5 := Tryz.isAgg5,
 z5 := Tryz.sizeOf5,
 v5 := gk,
 t9 := dt,
 a9 := eE,
 z9 := ee,
 v9 := dv,
 t22 := Tryz.underlying25,
 a22 := Tryz.isAgg25,
 z22 := Tryz.sizeOf25,
 v22 := Tryz.zeroValue25,
 t25 := Tryz.underlying119,
 a25 := Tryz.isAgg119,
 z25 := Tryz.sizeOf119,
 v25 := Tryz.zeroValue119,
 t39 := eX,
 a39 := Tryz.isAgg215,
 z39 := Tryz.sizeOf215,
 v39 := fz,
 t45 := eY,
 a45 := Tryz.isAgg261,
 z45 := Tryz.sizeOf261,
 v45 := fC,
 t46 := eZ,
 a46 := Tryz.isAgg262,
 z46 := Tryz.sizeOf262,
 v46 := fD,
 t50 := fE,
 a50 := Tryz.isAgg39,
 z50 := Tryz.sizeOf39,
 v50 := fW,
 t53 := fa,
 a53 := Tryz.isAgg268,
 z53 := Tryz.sizeOf268,
 v53 := fF,
 t55 := fb,
 a55 := Tryz.isAgg270,
 z55 := Tryz.sizeOf270,
 v55 := fG,
 t66 := fc,
 a66 := Tryz.isAgg291,
 z66 := Tryz.sizeOf291,
 v66 := fH,
 t70 := fe,
 a70 := Tryz.isAgg295,
 z70 := Tryz.sizeOf295,
 v70 := fI,
 t76 := fg,
 a76 := Tryz.isAgg315,
 z76 := Tryz.sizeOf315,
 v76 := fJ,
 t77 := fh,
 a77 := Tryz.isAgg142,
 z77 := Tryz.sizeOf142,
 v77 := fK}
def BB : Go.Shelf.Ren := ⟨fun | 6 => 182 | 8 => 179 | 9 => 229 | 19 => 225 | 20 => 226 | 21 => 260 | 22 => 261 | 23 => 262 | 24 => 263 | 25 => 264 | 26 => 265 | 27 => 266 | 28 => 267 | 29 => 268 | 36 => 291 | 31 => 256 | 32 => 257 | 37 => 292 | 38 => 293 | 39 => 294 | 41 => 300 | n => n, fun | 27 => 112 | 29 => 9 | 3 => 3 | 32 => 215 | 26 => 112 | 0 => 0 | 44 => 268 | 46 => 270 | 4 => 4 | 36 => 262 | 35 => 261 | 41 => 39 | 5 => 5 | 9 => 9 | 53 => 291 | 57 => 295 | 63 => 315 | 64 => 142 | n => n, fun | n => n⟩
theorem Co : Go.Proofs.SlLaysM.n6 Tryz.prog BB := {
 mixed := by kernel_rfl,
 f6 := ⟨Tryz.f182.name, by decide, Tryz.func182.trans (ap some (by kernel_rfl))⟩,
 f8 := Tryz.func179.trans (ap some (by kernel_rfl)),
 f9 := ⟨Tryz.f229.name, by decide, Tryz.func229.trans (ap some (by kernel_rfl))⟩,
 f19 := Tryz.func225.trans (ap some (by kernel_rfl)),
 f20 := Tryz.func226.trans (ap some (by kernel_rfl)),
 f21 := ⟨Tryz.f260.name, by decide, Tryz.func260.trans (ap some (by kernel_rfl))⟩,
 f22 := ⟨Tryz.f261.name, by decide, Tryz.func261.trans (ap some (by kernel_rfl))⟩,
 f23 := ⟨Tryz.f262.name, by decide, Tryz.func262.trans (ap some (by kernel_rfl))⟩,
 f24 := ⟨Tryz.f263.name, by decide, Tryz.func263.trans (ap some (by kernel_rfl))⟩,
 f25 := ⟨Tryz.f264.name, by decide, Tryz.func264.trans (ap some (by kernel_rfl))⟩,
 f26 := ⟨Tryz.f265.name, by decide, Tryz.func265.trans (ap some (by kernel_rfl))⟩,
 f27 := ⟨Tryz.f266.name, by decide, Tryz.func266.trans (ap some (by kernel_rfl))⟩,
 f28 := ⟨Tryz.f267.name, by decide, Tryz.func267.trans (ap some (by kernel_rfl))⟩,
 f29 := ⟨Tryz.f268.name, by decide, Tryz.func268.trans (ap some (by kernel_rfl))⟩,
 f31 := Tryz.func256.trans (ap some (by kernel_rfl)),
 f32 := Tryz.func257.trans (ap some (by kernel_rfl)),
 f36 := ⟨Tryz.f291.name, by decide, Tryz.func291.trans (ap some (by kernel_rfl))⟩,
 f37 := ⟨Tryz.f292.name, by decide, Tryz.func292.trans (ap some (by kernel_rfl))⟩,
 f38 := ⟨Tryz.f293.name, by decide, Tryz.func293.trans (ap some (by kernel_rfl))⟩,
 f39 := ⟨Tryz.f294.name, by decide, Tryz.func294.trans (ap some (by kernel_rfl))⟩,
 f41 := ⟨Tryz.f300.name, by decide, Tryz.func300.trans (ap some (by kernel_rfl))⟩,
 t0 := dI,
 a0 := fy,
 z0 := eP,
 v0 := dU,
 t3 := fU,
 a3 := Tryz.isAgg3,
 z3 := Tryz.sizeOf3,
 v3 := gj,
 t4 := eu,
 a4 := gm,
 z4 := fZ,
 v4 := eG,
 t5 := fV,
 a5 := Tryz.isAgg5,
 z5 := Tryz.sizeOf5,
 v5 := gk,
 t9 := dt,
 a9 := eE,
 z9 := ee,
 v9 := dv,
 t26 := fi,
 a26 := Tryz.isAgg112,
 z26 := Tryz.sizeOf112,
 v26 := fL,
 t27 := fi,
 a27 := Tryz.isAgg112,
 z27 := Tryz.sizeOf112,
 v27 := fL,
 t29 := dt,
 a29 := eE,
 z29 := ee,
 v29 := dv,
 t32 := eX,
 a32 := Tryz.isAgg215,
 z32 := Tryz.sizeOf215,
 v32 := fz,
 t35 := eY,
 a35 := Tryz.isAgg261,
 z35 := Tryz.sizeOf261,
 v35 := fC,
 t36 := eZ,
 a36 := Tryz.isAgg262,
 z36 := Tryz.sizeOf262,
 v36 := fD,
 t41 := fE,
 a41 := Tryz.isAgg39,
 z41 := Tryz.sizeOf39,
 v41 := fW,
 t44 := fa,
 a44 := Tryz.isAgg268,
 z44 := Tryz.sizeOf268,
 v44 := fF,
 t46 := fb,
 a46 := Tryz.isAgg270,
 z46 := Tryz.sizeOf270,
 v46 := fG,
 t53 := fc,
 a53 := Tryz.isAgg291,
 z53 := Tryz.sizeOf291,
 v53 := fH,
 t57 := fe,
 a57 := Tryz.isAgg295,
 z57 := Tryz.sizeOf295,
 v57 := fI,
 t63 := fg,
 a63 := Tryz.isAgg315,
 z63 := Tryz.sizeOf315,
 v63 := fJ,
 t64 := fh,
 a64 := Tryz.isAgg142,
 z64 := Tryz.sizeOf142,
 v64 := fK}
def D0 : Go.Shelf.Ren := ⟨fun | 7 => 120 | 10 => 183 | n => n, fun | 23 => 175 | 26 => 9 | 3 => 4 | 28 => 180 | 0 => 0 | 27 => 179 | 33 => 194 | 4 => 4 | n => n, fun | n => n⟩
theorem DX : Go.Proofs.SlLaysZ.n7 Tryz.prog D0 := {
 mixed := by kernel_rfl,
 f7 := ⟨Tryz.f120.name, by decide, Tryz.func120.trans (ap some (by kernel_rfl))⟩,
 f10 := ⟨Tryz.f183.name, by decide, Tryz.func183.trans (ap some (by kernel_rfl))⟩,
 t0 := dI,
 a0 := fy,
 z0 := eP,
 v0 := dU,
 t4 := eu,
 a4 := gm,
 z4 := fZ,
 v4 := eG,
 t23 := Tryz.underlying175,
 a23 := Tryz.isAgg175,
 z23 := Tryz.sizeOf175,
 v23 := Tryz.zeroValue175,
 t26 := dt,
 a26 := eE,
 z26 := ee,
 v26 := dv,
 t27 := Tryz.underlying179,
 a27 := Tryz.isAgg179,
 z27 := Tryz.sizeOf179,
 v27 := Tryz.zeroValue179,
 t28 := Tryz.underlying180,
 a28 := Tryz.isAgg180,
 z28 := Tryz.sizeOf180,
 v28 := Tryz.zeroValue180,
 t33 := Tryz.underlying194,
 a33 := Tryz.isAgg194,
 z33 := Tryz.sizeOf194,
 v33 := Tryz.zeroValue194}
def DR : Go.Shelf.Ren := ⟨fun | 6 => 119 | 8 => 181 | 9 => 182 | 11 => 228 | 13 => 179 | 12 => 229 | 23 => 225 | 24 => 226 | 14 => 260 | 15 => 261 | 16 => 262 | 17 => 263 | 18 => 264 | 19 => 265 | 20 => 266 | 21 => 267 | 22 => 268 | 25 => 291 | 26 => 256 | 27 => 257 | 28 => 292 | 29 => 293 | 30 => 294 | 31 => 300 | n => n, fun | 26 => 9 | 28 => 180 | 24 => 112 | 0 => 0 | 3 => 3 | 37 => 215 | 48 => 268 | 50 => 270 | 4 => 4 | 40 => 262 | 39 => 261 | 45 => 39 | 5 => 5 | 9 => 9 | 51 => 291 | 55 => 295 | 57 => 315 | 58 => 142 | 33 => 194 | n => n, fun | n => n⟩
theorem D9 : Go.Proofs.SlLaysZ.n6 Tryz.prog DR := {
 mixed := by kernel_rfl,
 f6 := ⟨Tryz.f119.name, by decide, Tryz.func119.trans (ap some (by kernel_rfl))⟩,
 f8 := ⟨Tryz.f181.name, by decide, Tryz.func181.trans (ap some (by kernel_rfl))⟩,
 f11 := ⟨Tryz.f228.name, by decide, Tryz.func228.trans (ap some (by kernel_rfl))⟩,
 t0 := dI,
 a0 := fy,
 z0 := eP,
 v0 := dU,
 t24 := fi,
 a24 := Tryz.isAgg112,
 z24 := Tryz.sizeOf112,
 v24 := fL,
 t26 := dt,
 a26 := eE,
 z26 := ee,
 v26 := dv,
 t28 := Tryz.underlying180,
 a28 := Tryz.isAgg180,
 z28 := Tryz.sizeOf180,
 v28 := Tryz.zeroValue180,
 i26 := by kernel_rfl}
end Go.Proofs.YtbnbdigcbldfhaaGreat
namespace Go.Proofs.YtbnbdigcbldfhaaGreat
open Go.IntKind renaming wrap → wi0
open Go.RowKit
set_option maxRecDepth 10000
noncomputable section
structure gr where
 gG : ByteArray
 hX : ByteArray
def gw (x : gr) : List Value := [.string x.gG, .string x.hX]
def gB (x y : gr) : Bool := (gX x.gG y.gG) && ((gX x.hX y.hX) && true)
theorem gC {x y : gr} : gB x y = true ↔ x = y := by
 cases x; cases y; simp [gB, iy]
theorem qf (x : gr) : (gw x).length = 2 := rfl
theorem nx (x : gr) : ∀ u ∈ gw x, u.oneCell' = true := by
 intro u hu
 simp only [gw, ah, bU, dR] at hu
 rcases hu with rfl | rfl <;> rfl
structure gu where
 Kind : Int
 Head : gr
 gU : ByteArray
 B : gr
 C : gr
 gY : ByteArray
def gv (x : gu) : List Value := [.int .i64 x.Kind, .string x.Head.gG, .string x.Head.hX, .string x.gU, .string x.B.gG, .string x.B.hX, .string x.C.gG, .string x.C.hX, .string x.gY]
def lM (x y : gu) : Bool := (x.Kind == y.Kind) && ((gB x.Head y.Head) && ((gX x.gU y.gU) && ((gB x.B y.B) && ((gB x.C y.C) && ((gX x.gY y.gY) && true)))))
theorem s6 {x y : gu} : lM x y = true ↔ x = y := by
 cases x; cases y; simp [lM, iy, gC]
theorem ic (x : gu) : (gv x).length = 9 := rfl
theorem jF (x : gu) : ∀ u ∈ gv x, u.oneCell' = true := by
 intro u hu
 simp only [gv, ah, bU, dR] at hu
 rcases hu with rfl | rfl | rfl | rfl | rfl | rfl | rfl | rfl | rfl <;> rfl
structure gx where
 gr : gr
 gU : ByteArray
def gL (x : gx) : List Value := [.string x.gr.gG, .string x.gr.hX, .string x.gU]
def iD (x y : gx) : Bool := (gB x.gr y.gr) && ((gX x.gU y.gU) && true)
theorem jn {x y : gx} : iD x y = true ↔ x = y := by
 cases x; cases y; simp [iD, iy, gC]
theorem lj (x : gx) : (gL x).length = 3 := rfl
theorem qM (x : gx) : ∀ u ∈ gL x, u.oneCell' = true := by
 intro u hu
 simp only [gL, ah, bU, dR] at hu
 rcases hu with rfl | rfl | rfl <;> rfl
def jV (a0 : ByteArray) (a : Int) : Option Int :=
 some (pB a0 a)
def lW (a0 : ByteArray) (a : Int) : Option Int :=
 ((jV a0 a).bind fun b => some b)
def od  : List Int → Option Bool
 | [] => some true
 | c :: a => ((lW (⟨#[97, 98, 99, 100, 101, 102, 103, 104, 105, 106, 107, 108, 109, 110, 111, 112, 113, 114, 115, 116, 117, 118, 119, 120, 121, 122, 48, 49, 50, 51, 52, 53, 54, 55, 56, 57, 45]⟩ : ByteArray) c).bind fun b => (if (decide (b < 0)) then some false else (od a)))
def sV (a0 : ByteArray) : Option Bool :=
 ((tD a0).bind fun a => od a)
def lz (a0 : ByteArray) : Option Bool :=
 ((if (decide ((a0.size : Int) ≥ 1)) then some (decide ((a0.size : Int) ≤ 16)) else some false).bind fun x2 => ((if x2 then ((rE a0 0).bind fun a => ((lW (⟨#[97, 98, 99, 100, 101, 102, 103, 104, 105, 106, 107, 108, 109, 110, 111, 112, 113, 114, 115, 116, 117, 118, 119, 120, 121, 122]⟩ : ByteArray) (a.toNat : Int)).bind fun c => some (decide (c ≥ 0)))) else some false).bind fun d => ((if d then ((sV a0).bind fun b => some b) else some false).bind fun g => some g)))
def pU (a0 : List Int) : Option (List Int) :=
 ((je 1 ([]) a0).bind fun a => some a)
def lA (a0 : gr) : Option Bool :=
 ((lz a0.gG).bind fun c => ((if c then ((lz a0.hX).bind fun a => some a) else some false).bind fun b => some b))
def lh (a0 a : ByteArray) : Option Int :=
 some (nF a0 a)
def nV (a0 a : ByteArray) : Option Int :=
 ((lh a0 a).bind fun b => some b)
def pg  : List Int → Option Int
 | [] => some 0
 | a :: b => (if (a != 0) then some a else (pg b))
def sa (a0 : List Int) : Option Int :=
 pg a0
def oh (a0 d : gr) : Option Int :=
 ((nV a0.gG d.gG).bind fun a => ((nV a0.hX d.hX).bind fun b => ((sa ([a, b])).bind fun c => some c)))
def mw (a0 : gu) : Option Bool :=
 ((lA a0.Head).bind fun w => (((if (a0.Kind == 1) then ((if w then ((lz a0.gU).bind fun b => some b) else some false).bind fun n => some (Sum.inr (n, (⟨a0.Kind, a0.Head, a0.gU, (⟨zS, zS⟩ : gr), (⟨zS, zS⟩ : gr), zS⟩ : gu)))) else (if (a0.Kind == 2) then ((if w then ((lA a0.B).bind fun c => some c) else some false).bind fun o => some (Sum.inr (o, (⟨a0.Kind, a0.Head, zS, a0.B, (⟨zS, zS⟩ : gr), zS⟩ : gu)))) else (if (a0.Kind == 3) then ((if w then ((lA a0.B).bind fun g => some g) else some false).bind fun p => ((if p then some (gX a0.B.gG a0.Head.gG) else some false).bind fun q => ((if q then ((lz a0.gY).bind fun d => some d) else some false).bind fun r => some (Sum.inr (r, (⟨a0.Kind, a0.Head, zS, a0.B, (⟨zS, zS⟩ : gr), a0.gY⟩ : gu)))))) else (if (a0.Kind == 4) then ((if w then ((lA a0.B).bind fun j => some j) else some false).bind fun t => ((if t then ((lA a0.C).bind fun i => some i) else some false).bind fun u => ((if u then ((oh a0.B a0.C).bind fun h => some (decide (h < 0))) else some false).bind fun v => some (Sum.inr (v, (⟨a0.Kind, a0.Head, zS, a0.B, a0.C, zS⟩ : gu)))))) else some (Sum.inl false))))) : Option (Bool ⊕ (Bool × gu))).bind fun s => match s with | .inl a => some a | .inr (k, l) => ((if k then some (lM l a0) else some false).bind fun m => some m)))
def kQ  : Nat → Int → (List Int) → Option (Bool × (List Int))
 | 0, _, _ => none
 | g + 1, a, c => (if (decide (a ≥ 128)) then ((je 1 c ([(IntKind.u8.wrap (BitVec.ofInt (IntKind.bits .u8) (IntKind.u8.wrap a) ||| BitVec.ofInt (IntKind.bits .u8) 128).toNat)])).bind fun d => (kQ g (Int.fdiv a (2 ^ min (Int.toNat 7) (IntKind.bits .i64))) d)) else ((je 1 c ([(IntKind.u8.wrap a)])).bind fun b => some (true, b)))
def lU (a : List Int) (b : Int) : Option (Bool × (List Int)) :=
 (if (decide (b < 0)) then some (false, a) else kQ jg b a)
def pH (a b : List Int) : Option (Bool × (List Int)) :=
 (if (decide ((b.length : Int) > 2048)) then some (false, a) else ((lU a (b.length : Int)).bind fun d => ((je 1 d.2 b).bind fun c => some (true, c))))
def nf (a : List Int) (h : ByteArray) : Option (Bool × (List Int)) :=
 ((lz h).bind fun i => (((if i then ((tD h).bind fun d => ((pH a d).bind fun b => some (b.1, b.2))) else some (false, a)) : Option (Bool × (List Int))).bind fun (g, c) => some (g, c)))
def ly (a : List Int) (g : gr) : Option (Bool × (List Int)) :=
 ((lA g).bind fun k => (((if k then ((nf a g.gG).bind fun d => some (d.1, d.2)) else some (false, a)) : Option (Bool × (List Int))).bind fun (i, b) => (((if i then ((nf b g.hX).bind fun c => some (c.1, c.2)) else some (false, b)) : Option (Bool × (List Int))).bind fun (j, h) => some (j, h))))
def pX (a : List Int) : Option (List Int) :=
 ((pU a).bind fun b => some b)
def pj (a0 : gu) : Option (List Int) :=
 ((mw a0).bind fun l => (if (!l) then some [] else ((lU ([]) a0.Kind).bind fun m => ((ly m.2 a0.Head).bind fun a => (((if (a0.Kind == 1) then ((nf a.2 a0.gU).bind fun d => some d.2) else (if (a0.Kind == 2) then ((ly a.2 a0.B).bind fun g => some g.2) else (if (a0.Kind == 3) then ((ly a.2 a0.B).bind fun h => ((nf h.2 a0.gY).bind fun i => some i.2)) else (if (a0.Kind == 4) then ((ly a.2 a0.B).bind fun j => ((ly j.2 a0.C).bind fun k => some k.2)) else some a.2)))) : Option (List Int)).bind fun b => ((pX b).bind fun c => some c))))))
def lT (a0 : List gu) : Option (List gu) :=
 ((je 136 ([]) a0).bind fun a => some a)
def jZ (f1 : gu → Option Bool) : List gu → Nat → Option Int
 | [], _ => some (-1)
 | c :: a, i35 => ((f1 c).bind fun b => (if b then some (i35 : Int) else (jZ f1 a (i35 + 1))))
def nr (a0 : List gu) (f1 : gu → Option Bool) : Option Int :=
 jZ f1 a0 0
def ju (f1 : gu → Option Bool) : Nat → (List gu) → Int → Int → Option (List gu)
 | 0, _, _, _ => none
 | n321 + 1, b, a, c => (if (decide (c < (b.length : Int))) then ((((kd b c).bind fun d => ((f1 d).bind fun h => (if (!h) then ((kd b a).bind fun j => some ((b.set (Int.toNat a) d), (wi0 .i64 (a + 1)))) else some (b, a)))) : Option ((List gu) × Int)).bind fun (g, i) => (ju f1 n321 g i (wi0 .i64 (c + 1)))) else ((nS (decide (0 ≤ a) && decide (a ≤ (b.length : Int)))).bind fun _ => ((nS (decide (0 ≤ a) && decide (a ≤ ((lC b (Int.toNat a) (⟨0, (⟨zS, zS⟩ : gr), zS, (⟨zS, zS⟩ : gr), (⟨zS, zS⟩ : gr), zS⟩ : gu)).length : Int)))).bind fun _ => some ((lC b (Int.toNat a) (⟨0, (⟨zS, zS⟩ : gr), zS, (⟨zS, zS⟩ : gr), (⟨zS, zS⟩ : gr), zS⟩ : gu)).take (Int.toNat a)))))
def lD (a0 : List gu) (f1 : gu → Option Bool) : Option (List gu) :=
 ((nr a0 f1).bind fun a => (if (a == (-1)) then some a0 else ju f1 jg a0 a (wi0 .i64 (a + 1))))
def pQ (a0 : gu) : Option Bool :=
 ((mw a0).bind fun a => some (!a))
def sN (a0 a : List Int) : Option Int :=
 some (ri a0 a)
def na (a0 d : gu) : Option Int :=
 ((pj a0).bind fun a => ((pj d).bind fun b => ((sN a b).bind fun c => some c)))
def jM (b : Int) : Nat → (List gu) → Int → Int → Option ((List gu) × Int)
 | 0, _, _, _ => none
 | h + 1, a, c, d => (if (decide (d < ((a.length - (Int.toNat b) : Nat) : Int))) then ((((kd (a.drop (Int.toNat b)) d).bind fun j => ((kd (a.drop (Int.toNat b)) (wi0 .i64 (d - 1))).bind fun k => (if (!(lM j k)) then ((kd (a.drop (Int.toNat b)) d).bind fun l => ((kd a c).bind fun m => some ((a.set (Int.toNat c) l), (wi0 .i64 (c + 1))))) else some (a, c)))) : Option ((List gu) × Int)).bind fun (g, i) => (jM b h g i (wi0 .i64 (d + 1)))) else some (a, c))
def jO (a0 : List gu) : Nat → Int → Option (List gu)
 | 0, _ => none
 | d + 1, a => (if (decide (a < (a0.length : Int))) then ((kd a0 a).bind fun g => ((kd a0 (wi0 .i64 (a - 1))).bind fun h => (if (lM g h) then ((nS (decide (0 ≤ a) && decide (a ≤ (a0.length : Int)))).bind fun _ => ((jM a jg a0 a 1).bind fun (c, b) => ((nS (decide (0 ≤ b) && decide (b ≤ (c.length : Int)))).bind fun _ => ((nS (decide (0 ≤ b) && decide (b ≤ ((lC c (Int.toNat b) (⟨0, (⟨zS, zS⟩ : gr), zS, (⟨zS, zS⟩ : gr), (⟨zS, zS⟩ : gr), zS⟩ : gu)).length : Int)))).bind fun _ => some ((lC c (Int.toNat b) (⟨0, (⟨zS, zS⟩ : gr), zS, (⟨zS, zS⟩ : gr), (⟨zS, zS⟩ : gr), zS⟩ : gu)).take (Int.toNat b)))))) else (jO a0 d (wi0 .i64 (a + 1)))))) else some a0)
def mF (a0 : List gu) : Option (List gu) :=
 (if (decide ((a0.length : Int) < 2)) then some a0 else jO a0 jg 1)
def mU (a0 : List gu) : Option (List gu) :=
 ((lT a0).bind fun d => ((lD d (fun (x : gu) => pQ x)).bind fun a => ((qx (fun (x : (gu × gu)) => na x.1 x.2) a).bind fun b => ((mF b).bind fun c => some c))))
def kR (c : gu) : List gu → Nat → Option Int
 | [], _ => some (-1)
 | b :: a, i46 => (if (lM c b) then some (i46 : Int) else (kR c a (i46 + 1)))
def oZ (a0 : List gu) (a : gu) : Option Int :=
 kR a a0 0
def nP (a0 : List gu) (a : gu) : Option Bool :=
 ((oZ a0 a).bind fun b => some (decide (b ≥ 0)))
def rR (a0 : List gu) (a : gu) : Option Bool :=
 ((nP a0 a).bind fun b => some b)
def pq (a0 : gu) : Option (List gr) :=
 ((mw a0).bind fun g => (if (!g) then some [] else (((if (a0.Kind != 1) then ((je 32 ([a0.Head]) ([a0.B])).bind fun d => some d) else some ([a0.Head])) : Option (List gr)).bind fun a => (((if (a0.Kind == 4) then ((je 32 a ([a0.C])).bind fun c => some c) else some a) : Option (List gr)).bind fun b => some b))))
def jR (h : gu) (a : List (ByteArray × (List gu))) (d : List gu) : List gr → (List (gr × (List gu))) → Option ((List gu) × (List (gr × (List gu))) × (List (ByteArray × (List gu))))
 | [], b => (if (h.Kind == 3) then ((je 136 ((gV gX a h.gY).getD []) ([h])).bind fun j => some (d, b, (iN gX a h.gY j))) else some (d, b, a))
 | c :: g, b => ((je 136 ((gV gB b c).getD []) ([h])).bind fun i => (jR h a d g (iN gB b c i)))
def mQ (h : List (gr × (List (ByteArray × Bool)))) (a : List gu) (c : List (gr × (List gu))) (b : List (ByteArray × (List gu))) (d : List gx) (k : Int) (i : gu) : Option ((List gu) × (List (gr × (List gu))) × (List (ByteArray × (List gu)))) :=
 ((je 136 a ([i])).bind fun j => ((pq i).bind fun g => ((nS (decide (0 ≤ 1) && decide (1 ≤ (g.length : Int)))).bind fun _ => jR i b j (g.drop (Int.toNat 1)) c)))
def jD (a : List (gr × (List (ByteArray × Bool)))) (d : List gu) (h : List (gr × (List gu))) (g : List (ByteArray × (List gu))) (b : List gx) (c : Int) (i : gr) (a2 : ByteArray) : Option ((List (gr × (List (ByteArray × Bool)))) × (List gx) × Int) :=
 (if (iP gX ((gV gB a i).getD []) a2 false) then some (a, b, c) else (((if (gV gB a i).isNone then ((wG gB a i ([])).bind fun j => some j) else some a) : Option (List (gr × (List (ByteArray × Bool))))).bind fun k => ((wD gB gX k i a2 true).bind fun l => ((je 48 b ([(⟨i, a2⟩ : gx)])).bind fun m => some (l, m, (wi0 .i64 (c + 1)))))))
def kc (a0 : List (ByteArray × Bool)) : Option Unit :=
 some ()
def iT (a : List (gr × (List (ByteArray × Bool)))) (b : List gu) (g : List (gr × (List gu))) (c : List (ByteArray × (List gu))) (d : List gx) (i : Int) (j : gr) : Option (List ByteArray) :=
 ((kc ((gV gB a j).getD [])).bind fun k => ((wX ((gV gB a j).getD [])).bind fun h => some h))
def kV (a : List gu) (c : List (gr × (List gu))) (b : List (ByteArray × (List gu))) (a2 : gr) : List ByteArray → (List (gr × (List (ByteArray × Bool)))) → (List gx) → Int → Option ((List (gr × (List (ByteArray × Bool)))) × (List gx) × Int)
 | [], d, g, i => some (d, g, i)
 | k :: j, d, g, i => ((jD d a c b g i a2 k).bind fun h => (kV a c b a2 j h.1 h.2.1 h.2.2))
def nq (g : List (gr × (List (ByteArray × Bool)))) (a : List gu) (d : List (gr × (List gu))) (b : List (ByteArray × (List gu))) (c : List gx) (h : Int) (i a2 : gr) : Option ((List (gr × (List (ByteArray × Bool)))) × (List gx) × Int) :=
 ((iT g a d b c h i).bind fun j => kV a d b a2 j g c h)
def lV (a : List (gr × (List (ByteArray × Bool)))) (c : List gu) (g : List (gr × (List gu))) (d : List (ByteArray × (List gu))) (b : List gx) (h : Int) (i : gu) (a2 : gx) : Option ((List (gr × (List (ByteArray × Bool)))) × (List gx) × Int) :=
 (if (i.Kind == 2) then ((jD a c g d b h i.Head a2.gU).bind fun l => some (l.1, l.2.1, l.2.2)) else (if (i.Kind == 3) then ((nq a c g d b h (⟨a2.gU, i.gY⟩ : gr) i.Head).bind fun j => some (j.1, j.2.1, j.2.2)) else (if (i.Kind == 4) then ((if (iP gX ((gV gB a i.B).getD []) a2.gU false) then some (iP gX ((gV gB a i.C).getD []) a2.gU false) else some false).bind fun m => (if m then ((jD a c g d b h i.Head a2.gU).bind fun k => some (k.1, k.2.1, k.2.2)) else some (a, b, h))) else some (a, b, h))))
def ku (a : List gu) (c : List (gr × (List gu))) (b : List (ByteArray × (List gu))) (l : gu) : List ByteArray → (List (gr × (List (ByteArray × Bool)))) → (List gx) → Int → Option ((List (gr × (List (ByteArray × Bool)))) × (List gx) × Int)
 | [], d, g, i => some (d, g, i)
 | k :: j, d, g, i => ((lV d a c b g i l (⟨l.B, k⟩ : gx)).bind fun h => (ku a c b l j h.1 h.2.1 h.2.2))
def mE (g : List (gr × (List (ByteArray × Bool)))) (a : List gu) (d : List (gr × (List gu))) (b : List (ByteArray × (List gu))) (c : List gx) (h : Int) (i : gu) : Option ((List (gr × (List (ByteArray × Bool)))) × (List gx) × Int) :=
 (if (i.Kind == 1) then ((jD g a d b c h i.Head i.gU).bind fun k => some (k.1, k.2.1, k.2.2)) else ((iT g a d b c h i.B).bind fun j => ku a d b i j g c h))
def jG (h : gx) (a : List gu) (c : List (gr × (List gu))) (b : List (ByteArray × (List gu))) : List gu → (List (gr × (List (ByteArray × Bool)))) → (List gx) → Int → Option ((List (gr × (List (ByteArray × Bool)))) × (List gx) × Int)
 | [], d, g, i => some (d, g, i)
 | l :: k, d, g, i => (if (iP gX ((gV gB d l.B).getD []) h.gr.gG false) then ((jD d a c b g i l.Head h.gU).bind fun j => (jG h a c b k j.1 j.2.1 j.2.2)) else (jG h a c b k d g i))
def kl (a : List gu) (c : List (gr × (List gu))) (b : List (ByteArray × (List gu))) (j : gx) : List gu → (List (gr × (List (ByteArray × Bool)))) → (List gx) → Int → Option ((List (gr × (List (ByteArray × Bool)))) × (List gx) × Int)
 | [], d, g, i => some (d, g, i)
 | l :: k, d, g, i => ((lV d a c b g i l j).bind fun h => (kl a c b j k h.1 h.2.1 h.2.2))
def ji (c : List gu) (b : List (gr × (List gu))) (a : List (ByteArray × (List gu))) : Nat → (List (gr × (List (ByteArray × Bool)))) → (List gx) → Int → Option ((List (gr × (List (ByteArray × Bool)))) × (List gx) × Int)
 | 0, _, _, _ => none
 | n + 1, h, d, i => (if (decide ((d.length : Int) > 0)) then ((kd d 0).bind fun g => ((nS (decide (0 ≤ 1) && decide (1 ≤ (d.length : Int)))).bind fun _ => ((kl c b a g ((gV gB b g.gr).getD []) h (d.drop (Int.toNat 1)) i).bind fun (j, k, o) => ((jG g c b a ((gV gX a g.gr.hX).getD []) j k o).bind fun (l, m, p) => (ji c b a n l m p))))) else some (h, d, i))
def nO (g : List (gr × (List (ByteArray × Bool)))) (a : List gu) (d : List (gr × (List gu))) (b : List (ByteArray × (List gu))) (c : List gx) (h : Int) : Option ((List (gr × (List (ByteArray × Bool)))) × (List gx) × Int) :=
 ji a d b jg g c h
def jE (l : Int) : List gu → (List (gr × (List (ByteArray × Bool)))) → (List gu) → (List (gr × (List gu))) → (List (ByteArray × (List gu))) → (List gx) → Int → Option (Int × (List (gr × (List (ByteArray × Bool)))) × (List gu) × (List (gr × (List gu))) × (List (ByteArray × (List gu))) × (List gx) × Int)
 | [], c, a, d, g, h, i => ((nO c a d g h i).bind fun j => some ((wi0 .i64 (j.2.2 - l)), j.1, a, d, g, j.2.1, j.2.2))
 | k :: n, c, a, d, g, h, i => ((mw k).bind fun o => ((if o then ((rR a k).bind fun p => some (!p)) else some false).bind fun q => (if q then ((mQ c a d g h i k).bind fun b => ((mE c b.1 b.2.1 b.2.2 h i k).bind fun m => (jE l n m.1 b.1 b.2.1 b.2.2 m.2.1 m.2.2))) else (jE l n c a d g h i))))
def np (g : List (gr × (List (ByteArray × Bool)))) (a : List gu) (d : List (gr × (List gu))) (b : List (ByteArray × (List gu))) (c : List gx) (h : Int) (i : List gu) : Option (Int × (List (gr × (List (ByteArray × Bool)))) × (List gu) × (List (gr × (List gu))) × (List (ByteArray × (List gu))) × (List gx) × Int) :=
 jE h i g a d b c h
def rL (a0 : List gu) : Option ((List (gr × (List (ByteArray × Bool)))) × (List gu) × (List (gr × (List gu))) × (List (ByteArray × (List gu))) × (List gx) × Int) :=
 ((np ([]) ([]) ([]) ([]) ([]) 0 a0).bind fun a => some (a.2.1, a.2.2.1, a.2.2.2.1, a.2.2.2.2.1, a.2.2.2.2.2.1, a.2.2.2.2.2.2))
def lc  : List gu → Int → Option Int
 | [], b => some b
 | a :: c, b => (lc c (wi0 .i64 (b + (wi0 .i64 ((wi0 .i64 ((wi0 .i64 ((wi0 .i64 ((wi0 .i64 ((wi0 .i64 ((wi0 .i64 ((wi0 .i64 (20 + (a.Head.gG.size : Int))) + (a.Head.hX.size : Int))) + (a.gU.size : Int))) + (a.B.gG.size : Int))) + (a.B.hX.size : Int))) + (a.C.gG.size : Int))) + (a.C.hX.size : Int))) + (a.gY.size : Int))))))
def rB (a0 : List gu) : Option Int :=
 lc a0 0
def kZ (a0 : ByteArray) : Nat → Int → Option Bool
 | 0, _ => none
 | c + 1, b => (if (decide (b < (a0.size : Int))) then ((rE a0 b).bind fun a => ((if (decide ((a.toNat : Int) < 97)) then some true else some (decide ((a.toNat : Int) > 122))).bind fun d => ((if d then ((if (decide ((a.toNat : Int) < 48)) then some true else some (decide ((a.toNat : Int) > 57))).bind fun i => some i) else some false).bind fun g => ((if g then some ((a.toNat : Int) != 45) else some false).bind fun h => (if h then some false else (kZ a0 c (wi0 .i64 (b + 1)))))))) else some true)
def lO (a0 : ByteArray) : Option Bool :=
 ((if (gX a0 zS) then some true else some (decide ((a0.size : Int) > 16))).bind fun x2 => ((if x2 then some true else ((rE a0 0).bind fun b => some (decide ((b.toNat : Int) < 97)))).bind fun c => ((if c then some true else ((rE a0 0).bind fun a => some (decide ((a.toNat : Int) > 122)))).bind fun d => (if d then some false else kZ a0 jg 0))))
def mH (a0 : gr) : Option Bool :=
 ((lO a0.gG).bind fun c => ((if c then ((lO a0.hX).bind fun a => some a) else some false).bind fun b => some b))
def nl (a0 a : gr) : Option Bool :=
 ((if (kw a0.gG a.gG) then some true else ((if (gX a0.gG a.gG) then some (kw a0.hX a.hX) else some false).bind fun c => some c)).bind fun b => some b)
def nw (a0 : gu) : Option Bool :=
 ((mH a0.Head).bind fun r => (if (!r) then some false else (if (a0.Kind == 1) then ((lO a0.gU).bind fun h => ((if h then some (gB a0.B (⟨zS, zS⟩ : gr)) else some false).bind fun j => ((if j then some (gB a0.C (⟨zS, zS⟩ : gr)) else some false).bind fun k => ((if k then some (gX a0.gY zS) else some false).bind fun l => some l)))) else ((if (!(gX a0.gU zS)) then some true else ((mH a0.B).bind fun c => some (!c))).bind fun m => (if m then some false else (if (a0.Kind == 2) then ((if (gB a0.C (⟨zS, zS⟩ : gr)) then some (gX a0.gY zS) else some false).bind fun n => some n) else (if (a0.Kind == 3) then ((if (gB a0.C (⟨zS, zS⟩ : gr)) then some (gX a0.B.gG a0.Head.gG) else some false).bind fun o => ((if o then ((lO a0.gY).bind fun i => some i) else some false).bind fun p => some p)) else ((if (a0.Kind == 4) then some (gX a0.gY zS) else some false).bind fun q => ((if q then ((mH a0.C).bind fun b => some b) else some false).bind fun d => ((if d then ((nl a0.B a0.C).bind fun a => some a) else some false).bind fun g => some g))))))))))
def mO  : Nat → Int → ByteArray → Option ByteArray
 | 0, _, _ => none
 | n45 + 1, a, b => (if (decide (a ≥ 128)) then ((qO b (uC ([(IntKind.u8.wrap (wi0 .i64 (128 + (Int.tmod a 128))))]))).bind fun c => (mO n45 (wi0 .i64 (Int.tdiv a 128)) c)) else ((qO b (uC ([(IntKind.u8.wrap a)]))).bind fun d => some d))
def ox (a0 : Int) : Option ByteArray :=
 mO jg a0 zS
def nh (a0 : ByteArray) : Option ByteArray :=
 ((ox (a0.size : Int)).bind fun a => ((qO a a0).bind fun b => some b))
def ny (a0 : gr) : Option ByteArray :=
 ((nh a0.gG).bind fun a => ((nh a0.hX).bind fun b => ((qO a b).bind fun c => some c)))
def rA (a0 : gu) : Option ByteArray :=
 ((ox a0.Kind).bind fun d => ((ny a0.Head).bind fun g => ((qO d g).bind fun a => (if (a0.Kind == 1) then ((nh a0.gU).bind fun h => ((qO a h).bind fun l => some l)) else ((ny a0.B).bind fun i => ((qO a i).bind fun b => (((if (a0.Kind == 3) then ((nh a0.gY).bind fun k => ((qO b k).bind fun n => some n)) else some b) : Option ByteArray).bind fun c => (((if (a0.Kind == 4) then ((ny a0.C).bind fun j => ((qO c j).bind fun m => some m)) else some c) : Option ByteArray).bind fun o => some o))))))))
def oP (a0 : gu) : Option ByteArray :=
 ((nw a0).bind fun a => (if (!a) then some zS else ((rA a0).bind fun b => some b)))
def mC (a0 c : gu) : Option Int :=
 ((oP a0).bind fun a => ((oP c).bind fun b => (if (kw a b) then some (-1) else (if (!(kw a b || gX a b)) then some 1 else some 0))))
def mi (a : List gu) : List gu → Bool → gu → Option (Bool × gu)
 | [], c, d => some (c, d)
 | b :: g, c, d => ((nw b).bind fun h => ((if h then ((if ((a.length : Int) == 0) then some true else ((kd a (wi0 .i64 ((a.length : Int) - 1))).bind fun o => ((mC o b).bind fun j => some (decide (j < 0))))).bind fun n => some n) else some false).bind fun k => ((if k then ((if (!c) then some true else ((mC b d).bind fun i => some (decide (i < 0)))).bind fun m => some m) else some false).bind fun l => (if l then (mi a g true b) else (mi a g c d)))))
def mY (a0 : List gu) : Nat → (List gu) → Option (List gu)
 | 0, _ => none
 | c + 1, a => ((mi a a0 false (⟨0, (⟨zS, zS⟩ : gr), zS, (⟨zS, zS⟩ : gr), (⟨zS, zS⟩ : gr), zS⟩ : gu)).bind fun (d, g) => (if (!d) then some a else ((je 136 a ([g])).bind fun b => (mY a0 c b))))
def nR (a0 : List gu) : Option (List gu) :=
 mY a0 jg ([])
def lZ (a : List ByteArray) : List ByteArray → ByteArray → Option ByteArray
 | [], c => some c
 | b :: d, c => ((lO b).bind fun h => ((if h then ((if ((a.length : Int) == 0) then some true else ((kd a (wi0 .i64 ((a.length : Int) - 1))).bind fun g => some (!(kw b g || gX b g)))).bind fun l => some l) else some false).bind fun i => ((if i then ((if (gX c zS) then some true else some (kw b c)).bind fun k => some k) else some false).bind fun j => (if j then (lZ a d b) else (lZ a d c)))))
def nc (a0 : List ByteArray) : Nat → (List ByteArray) → Option (List ByteArray)
 | 0, _ => none
 | d + 1, a => ((lZ a a0 zS).bind fun b => (if (gX b zS) then some a else ((je 16 a ([b])).bind fun c => (nc a0 d c))))
def qT (a0 : List ByteArray) : Option (List ByteArray) :=
 nc a0 jg ([])
def mg  : List gu → (List ByteArray) → Option (List ByteArray)
 | [], b => ((qT b).bind fun d => some d)
 | a :: g, b => ((je 16 b ([a.gU, a.Head.gG, a.B.gG, a.C.gG])).bind fun c => (mg g c))
def nv (a0 : List gu) : Option (List ByteArray) :=
 mg a0 ([])
def oM (d : gr) (a2 : ByteArray) : List gx → Option Bool
 | [] => some false
 | b :: c => ((if (gB b.gr d) then some (gX b.gU a2) else some false).bind fun a => (if a then some true else (oM d a2 c)))
def kX (a0 : List gx) (a : gr) (a2 : ByteArray) : Option Bool :=
 oM a a2 a0
def nG (a0 : List gx) (h : gu) (a3 : ByteArray) : List ByteArray → Option Bool
 | [] => some false
 | a :: b => ((kX a0 h.B a).bind fun c => ((if c then ((kX a0 (⟨a, h.gY⟩ : gr) a3).bind fun d => some d) else some false).bind fun g => (if g then some true else (nG a0 h a3 b))))
def oe (a0 : List gx) (a : gu) (a2 : List ByteArray) (a3 : ByteArray) : Option Bool :=
 (if (a.Kind == 1) then some (gX a.gU a3) else (if (a.Kind == 2) then ((kX a0 a.B a3).bind fun d => some d) else (if (a.Kind == 4) then ((kX a0 a.B a3).bind fun g => ((if g then ((kX a0 a.C a3).bind fun b => some b) else some false).bind fun c => some c)) else nG a0 a a3 a2)))
def ob (a0 a : gx) : Option Bool :=
 ((nl a0.gr a.gr).bind fun d => ((if d then some true else ((if (gB a0.gr a.gr) then some (kw a0.gU a.gU) else some false).bind fun c => some c)).bind fun b => some b))
def kJ (b a0 : List gx) : List gx → Nat → Int → Option Int
 | [], _, a => some a
 | g :: d, c, a => ((if ((b.length : Int) == 0) then some true else ((kd b (wi0 .i64 ((b.length : Int) - 1))).bind fun n => ((ob n g).bind fun i => some i))).bind fun j => ((if j then ((if (decide (a < 0)) then some true else ((kd a0 a).bind fun m => ((ob g m).bind fun h => some h))).bind fun l => some l) else some false).bind fun k => (if k then (kJ b a0 d (c + 1) (c : Int)) else (kJ b a0 d (c + 1) a))))
def kF (a0 : List gx) : List gx → (List gx) → Option (List gx)
 | [], a => some a
 | h :: c, a => ((kJ a a0 a0 0 (-1)).bind fun b => (if (decide (b ≥ 0)) then ((kd a0 b).bind fun g => ((je 48 a ([g])).bind fun d => (kF a0 c d))) else (kF a0 c a)))
def tm (a0 : List gx) : Option (List gx) :=
 kF a0 a0 ([])
def oT (b : gu) (l : List ByteArray) : List ByteArray → (List gx) → Bool → Option ((List gx) × Bool)
 | [], a, d => some (a, d)
 | c :: g, a, d => ((kX a b.Head c).bind fun i => ((if (!i) then ((oe a b l c).bind fun j => some j) else some false).bind fun k => (if k then ((je 48 a ([(⟨b.Head, c⟩ : gx)])).bind fun h => (oT b l g h true)) else (oT b l g a d))))
def pR (i : List ByteArray) : List gu → (List gx) → Bool → Option ((List gx) × Bool)
 | [], a, b => some (a, b)
 | g :: c, a, b => ((oT g i i a b).bind fun (d, h) => (pR i c d h))
def pS (h : List ByteArray) (i : List gu) : Nat → (List gx) → Option (List gx)
 | 0, _ => none
 | b + 1, g => ((pR h i g false).bind fun (a, d) => (if (!d) then ((tm a).bind fun c => some c) else (pS h i b a)))
def tU (a0 : List gu) : Option (List gx) :=
 ((nR a0).bind fun b => ((nv b).bind fun a => pS a b jg ([])))
def jz (b : Int) : Nat → (List ByteArray) → Int → Int → Option ((List ByteArray) × Int)
 | 0, _, _, _ => none
 | h + 1, a, c, d => (if (decide (d < ((a.length - (Int.toNat b) : Nat) : Int))) then ((((kd (a.drop (Int.toNat b)) d).bind fun j => ((kd (a.drop (Int.toNat b)) (wi0 .i64 (d - 1))).bind fun k => (if (!(gX j k)) then ((kd (a.drop (Int.toNat b)) d).bind fun l => ((kd a c).bind fun m => some ((a.set (Int.toNat c) l), (wi0 .i64 (c + 1))))) else some (a, c)))) : Option ((List ByteArray) × Int)).bind fun (g, i) => (jz b h g i (wi0 .i64 (d + 1)))) else some (a, c))
def jy (a0 : List ByteArray) : Nat → Int → Option (List ByteArray)
 | 0, _ => none
 | d + 1, a => (if (decide (a < (a0.length : Int))) then ((kd a0 a).bind fun g => ((kd a0 (wi0 .i64 (a - 1))).bind fun h => (if (gX g h) then ((nS (decide (0 ≤ a) && decide (a ≤ (a0.length : Int)))).bind fun _ => ((jz a jg a0 a 1).bind fun (c, b) => ((nS (decide (0 ≤ b) && decide (b ≤ (c.length : Int)))).bind fun _ => ((nS (decide (0 ≤ b) && decide (b ≤ ((lC c (Int.toNat b) zS).length : Int)))).bind fun _ => some ((lC c (Int.toNat b) zS).take (Int.toNat b)))))) else (jy a0 d (wi0 .i64 (a + 1)))))) else some a0)
def kE (a0 : List ByteArray) : Option (List ByteArray) :=
 (if (decide ((a0.length : Int) < 2)) then some a0 else jy a0 jg 1)
def mK  : List ByteArray → (List ByteArray) → Option (List ByteArray)
 | [], a => ((vy a).bind fun g => ((kE g).bind fun h => some h))
 | i :: b, a => ((lz i).bind fun d => (if d then ((je 16 a ([i])).bind fun c => (mK b c)) else (mK b a)))
def pw (a0 : List ByteArray) : Option (List ByteArray) :=
 mK a0 ([])
def jK (f1 : ByteArray → Option Bool) : List ByteArray → Nat → Option Int
 | [], _ => some (-1)
 | c :: a, i35 => ((f1 c).bind fun b => (if b then some (i35 : Int) else (jK f1 a (i35 + 1))))
def mT (a0 : List ByteArray) (f1 : ByteArray → Option Bool) : Option Int :=
 jK f1 a0 0
def me (a0 : List ByteArray) (f1 : ByteArray → Option Bool) : Option Bool :=
 ((mT a0 f1).bind fun a => some (decide (a ≥ 0)))
def mN (a0 : ByteArray) (a : (gr × ByteArray) → Option Bool) (c1 : gu) (c2 : ByteArray) : Option Bool :=
 ((a (c1.B, a0)).bind fun d => ((if d then ((a ((⟨a0, c1.gY⟩ : gr), c2)).bind fun b => some b) else some false).bind fun c => some c))
def pz (a0 : gu) (f1 : (gr × ByteArray) → Option Bool) (a2 : List ByteArray) (a3 : ByteArray) : Option Bool :=
 (if (a0.Kind == 1) then some (gX a0.gU a3) else (if (a0.Kind == 2) then ((f1 (a0.B, a3)).bind fun a => some a) else (if (a0.Kind == 4) then ((f1 (a0.B, a3)).bind fun b => ((if b then ((f1 (a0.C, a3)).bind fun c => some c) else some false).bind fun g => some g)) else ((me a2 (fun (x : ByteArray) => mN x f1 a0 a3)).bind fun d => some d))))
def la (a0 : gu) (f1 : (gr × ByteArray) → Option Bool) (d : List ByteArray) : List ByteArray → (List gx) → Option (List gx)
 | [], a => some a
 | c :: b, a => ((pz a0 f1 d c).bind fun h => (if h then ((je 48 a ([(⟨a0.Head, c⟩ : gx)])).bind fun g => (la a0 f1 d b g)) else (la a0 f1 d b a)))
def pO (a0 : gu) (f1 : (gr × ByteArray) → Option Bool) (a2 : List ByteArray) : Option (List gx) :=
 ((mw a0).bind fun c => ((if (!c) then some true else some false).bind fun d => (if d then some [] else ((pw a2).bind fun a => (((if (a0.Kind == 1) then some ([a0.gU]) else some a) : Option (List ByteArray)).bind fun b => la a0 f1 a b ([]))))))
def mX (a : List gr) : List gr → Bool → gr → Option (Bool × gr)
 | [], c, d => some (c, d)
 | b :: g, c, d => ((mH b).bind fun h => ((if h then ((if ((a.length : Int) == 0) then some true else ((kd a (wi0 .i64 ((a.length : Int) - 1))).bind fun o => ((nl o b).bind fun j => some j))).bind fun n => some n) else some false).bind fun k => ((if k then ((if (!c) then some true else ((nl b d).bind fun i => some i)).bind fun m => some m) else some false).bind fun l => (if l then (mX a g true b) else (mX a g c d)))))
def px (a0 : List gr) : Nat → (List gr) → Option (List gr)
 | 0, _ => none
 | c + 1, a => ((mX a a0 false (⟨zS, zS⟩ : gr)).bind fun (d, g) => (if (!d) then some a else ((je 32 a ([g])).bind fun b => (px a0 c b))))
def vF (a0 : List gr) : Option (List gr) :=
 px a0 jg ([])
def lm (g : gr) : List gx → (List ByteArray) → Option (List ByteArray)
 | [], a => some a
 | d :: b, a => (if (gB d.gr g) then ((je 16 a ([d.gU])).bind fun c => (lm g b c)) else (lm g b a))
def nD (a0 : List gx) (a : gr) : Option (List ByteArray) :=
 lm a a0 ([])
structure gD where
 gr : gr
 lH : Int
 kM : Int
 pG : Int
def gH (x : gD) : List Value := [.string x.gr.gG, .string x.gr.hX, .int .i64 x.lH, .int .i64 x.kM, .int .i64 x.pG]
def re (x y : gD) : Bool := (gB x.gr y.gr) && ((x.lH == y.lH) && ((x.kM == y.kM) && ((x.pG == y.pG) && true)))
theorem yo {x y : gD} : re x y = true ↔ x = y := by
 cases x; cases y; simp [re, iy, gC]
theorem pu (x : gD) : (gH x).length = 5 := rfl
theorem lN (x : gD) : ∀ u ∈ gH x, u.oneCell' = true := by
 intro u hu
 simp only [gH, ah, bU, dR] at hu
 rcases hu with rfl | rfl | rfl | rfl | rfl <;> rfl
def jo (a0 : List (gr × gD)) : Option Unit :=
 some ()
def iR (a0 a : gD) : Option Int :=
 ((oh a0.gr a.gr).bind fun b => some b)
def jQ (c : ((List (gr × (List (ByteArray × Bool)))) × (List gu) × (List (gr × (List gu))) × (List (ByteArray × (List gu))) × (List gx) × Int)) : List gr → Nat → (List (gr × gD)) → Option (List (gr × gD))
 | [], _, b => some b
 | a :: h, g, b => (((if ((g : Int) == 0) then some (⟨a, (wi0 .i64 (((iP gB b a (⟨(⟨zS, zS⟩ : gr), 0, 0, 0⟩ : gD)).lH) + 1)), (iP gB b a (⟨(⟨zS, zS⟩ : gr), 0, 0, 0⟩ : gD)).kM, (iP gB b a (⟨(⟨zS, zS⟩ : gr), 0, 0, 0⟩ : gD)).pG⟩ : gD) else some (⟨a, (iP gB b a (⟨(⟨zS, zS⟩ : gr), 0, 0, 0⟩ : gD)).lH, (wi0 .i64 (((iP gB b a (⟨(⟨zS, zS⟩ : gr), 0, 0, 0⟩ : gD)).kM) + 1)), (iP gB b a (⟨(⟨zS, zS⟩ : gr), 0, 0, 0⟩ : gD)).pG⟩ : gD)) : Option gD).bind fun d => ((iT c.1 c.2.1 c.2.2.1 c.2.2.2.1 c.2.2.2.2.1 c.2.2.2.2.2 a).bind fun i => (jQ c h (g + 1) (iN gB b a (⟨d.gr, d.lH, d.kM, (i.length : Int)⟩ : gD)))))
def kv (i : ((List (gr × (List (ByteArray × Bool)))) × (List gu) × (List (gr × (List gu))) × (List (ByteArray × (List gu))) × (List gx) × Int)) : List gu → (List (gr × gD)) → Option (List gD)
 | [], a => ((jo a).bind fun j => ((vv 56 (fun (x : (gD × gD)) => iR x.1 x.2) a).bind fun g => some g))
 | h :: b, a => ((pq h).bind fun d => ((jQ i d 0 a).bind fun c => (kv i b c)))
def km (a0 : List gu) : Option (List gD) :=
 ((mU a0).bind fun b => ((rL a0).bind fun a => kv a b ([])))
def kN  : List gD → gD → Option (gD × Bool)
 | [], a => some (a, true)
 | c :: b, a => (if (decide (c.kM > a.kM)) then (kN b c) else (kN b a))
def oF (a0 : List gu) : Option (gD × Bool) :=
 ((km a0).bind fun a => (if ((a.length : Int) == 0) then some ((⟨(⟨zS, zS⟩ : gr), 0, 0, 0⟩ : gD), false) else ((kd a 0).bind fun b => ((nS (decide (0 ≤ 1) && decide (1 ≤ (a.length : Int)))).bind fun _ => kN (a.drop (Int.toNat 1)) b))))
def mf  : List gu → (List ByteArray) → Option (List ByteArray)
 | [], b => ((pw b).bind fun d => some d)
 | a :: g, b => ((je 16 b ([a.gU, a.Head.gG, a.B.gG, a.C.gG])).bind fun c => (mf g c))
def rr (a0 : List gu) : Option (List ByteArray) :=
 mf a0 ([])
def oH (a0 : gr) (a : ByteArray) (b : List (gx × Int)) : Option Bool :=
 some ((gV iD b (⟨a0, a⟩ : gx)).isSome)
def mj (b : Int) : List gx → (List (gx × Int)) → Option (List (gx × Int))
 | [], a => some a
 | d :: c, a => (if (!((gV iD a d).isSome)) then (mj b c (iN iD a d b)) else (mj b c a))
def nm (b : List (gx × Int)) (j : List ByteArray) (c : Int) : List gu → (List (gx × Int)) → Option (List (gx × Int))
 | [], a => some a
 | i :: d, a => ((pO i (fun (x : (gr × ByteArray)) => oH x.1 x.2 b) j).bind fun h => ((mj c h a).bind fun g => (nm b j c d g)))
def lX (g : List ByteArray) (h : List gu) : Nat → (List (gx × Int)) → Int → Option ((List (gx × Int)) × Int)
 | 0, _, _ => none
 | d + 1, a, c => ((nm a g c h a).bind fun b => (if ((b.length : Int) == (a.length : Int)) then some (b, c) else (lX g h d b (wi0 .i64 (c + 1)))))
def nz (a0 : List gu) : Option ((List (gx × Int)) × Int) :=
 ((mU a0).bind fun c => ((mU a0).bind fun a => ((rr a).bind fun b => lX b c jg ([]) 0)))
def po (a0 : List gu) (a : gx) : Option (Int × Bool) :=
 ((nz a0).bind fun b => some ((iP iD b.1 a 0), (gV iD b.1 a).isSome))
def pn (a0 : List gu) : Option Int :=
 ((nz a0).bind fun a => some a.2)
def kj (c : List (gr × Int)) : List gD → (List gr) → Option (List gr)
 | [], b => some b
 | a :: d, b => ((if (decide (a.lH > 0)) then some (a.kM == 0) else some false).bind fun h => ((if h then some ((iP gB c a.gr 0) == a.lH) else some false).bind fun i => (if i then ((je 32 b ([a.gr])).bind fun g => (kj c d g)) else (kj c d b))))
def jt (a0 : List gu) : List gu → (List (gr × Int)) → Option (List gr)
 | [], a => ((km a0).bind fun g => ((kj a g ([])).bind fun d => some d))
 | b :: c, a => (if (b.Kind == 1) then (jt a0 c (iN gB a b.Head (wi0 .i64 ((iP gB a b.Head 0) + 1)))) else (jt a0 c a))
def lg (a0 : List gu) : Option (List gr) :=
 ((mU a0).bind fun a => jt a0 a ([]))
def oO  : Option Bool :=
 ((km ([(⟨2, (⟨(⟨#[97]⟩ : ByteArray), (⟨#[114]⟩ : ByteArray)⟩ : gr), zS, (⟨(⟨#[98]⟩ : ByteArray), (⟨#[115]⟩ : ByteArray)⟩ : gr), (⟨zS, zS⟩ : gr), zS⟩ : gu), (⟨1, (⟨(⟨#[98]⟩ : ByteArray), (⟨#[115]⟩ : ByteArray)⟩ : gr), (⟨#[100]⟩ : ByteArray), (⟨zS, zS⟩ : gr), (⟨zS, zS⟩ : gr), zS⟩ : gu)])).bind fun q => ((oF ([(⟨2, (⟨(⟨#[97]⟩ : ByteArray), (⟨#[114]⟩ : ByteArray)⟩ : gr), zS, (⟨(⟨#[98]⟩ : ByteArray), (⟨#[115]⟩ : ByteArray)⟩ : gr), (⟨zS, zS⟩ : gr), zS⟩ : gu), (⟨1, (⟨(⟨#[98]⟩ : ByteArray), (⟨#[115]⟩ : ByteArray)⟩ : gr), (⟨#[100]⟩ : ByteArray), (⟨zS, zS⟩ : gr), (⟨zS, zS⟩ : gr), zS⟩ : gu)])).bind fun a => ((po ([(⟨2, (⟨(⟨#[97]⟩ : ByteArray), (⟨#[114]⟩ : ByteArray)⟩ : gr), zS, (⟨(⟨#[98]⟩ : ByteArray), (⟨#[115]⟩ : ByteArray)⟩ : gr), (⟨zS, zS⟩ : gr), zS⟩ : gu), (⟨1, (⟨(⟨#[98]⟩ : ByteArray), (⟨#[115]⟩ : ByteArray)⟩ : gr), (⟨#[100]⟩ : ByteArray), (⟨zS, zS⟩ : gr), (⟨zS, zS⟩ : gr), zS⟩ : gu)]) (⟨(⟨(⟨#[97]⟩ : ByteArray), (⟨#[114]⟩ : ByteArray)⟩ : gr), (⟨#[100]⟩ : ByteArray)⟩ : gx)).bind fun b => ((if ((q.length : Int) == 2) then ((kd q 1).bind fun p => some (re p (⟨(⟨(⟨#[98]⟩ : ByteArray), (⟨#[115]⟩ : ByteArray)⟩ : gr), 1, 1, 1⟩ : gD))) else some false).bind fun h => ((if h then some a.2 else some false).bind fun i => ((if i then some (gB a.1.gr (⟨(⟨#[98]⟩ : ByteArray), (⟨#[115]⟩ : ByteArray)⟩ : gr)) else some false).bind fun j => ((if j then some b.2 else some false).bind fun k => ((if k then some (b.1 == 1) else some false).bind fun l => ((if l then ((pn ([(⟨2, (⟨(⟨#[97]⟩ : ByteArray), (⟨#[114]⟩ : ByteArray)⟩ : gr), zS, (⟨(⟨#[98]⟩ : ByteArray), (⟨#[115]⟩ : ByteArray)⟩ : gr), (⟨zS, zS⟩ : gr), zS⟩ : gu), (⟨1, (⟨(⟨#[98]⟩ : ByteArray), (⟨#[115]⟩ : ByteArray)⟩ : gr), (⟨#[100]⟩ : ByteArray), (⟨zS, zS⟩ : gr), (⟨zS, zS⟩ : gr), zS⟩ : gu)])).bind fun g => some (g == 2)) else some false).bind fun m => ((if m then ((lg ([(⟨2, (⟨(⟨#[97]⟩ : ByteArray), (⟨#[114]⟩ : ByteArray)⟩ : gr), zS, (⟨(⟨#[98]⟩ : ByteArray), (⟨#[115]⟩ : ByteArray)⟩ : gr), (⟨zS, zS⟩ : gr), zS⟩ : gu), (⟨1, (⟨(⟨#[98]⟩ : ByteArray), (⟨#[115]⟩ : ByteArray)⟩ : gr), (⟨#[100]⟩ : ByteArray), (⟨zS, zS⟩ : gr), (⟨zS, zS⟩ : gr), zS⟩ : gu)])).bind fun d => some ((d.length : Int) == 0)) else some false).bind fun n => ((if n then ((nS (decide (0 ≤ 1) && decide (1 ≤ (([(⟨2, (⟨(⟨#[97]⟩ : ByteArray), (⟨#[114]⟩ : ByteArray)⟩ : gr), zS, (⟨(⟨#[98]⟩ : ByteArray), (⟨#[115]⟩ : ByteArray)⟩ : gr), (⟨zS, zS⟩ : gr), zS⟩ : gu), (⟨1, (⟨(⟨#[98]⟩ : ByteArray), (⟨#[115]⟩ : ByteArray)⟩ : gr), (⟨#[100]⟩ : ByteArray), (⟨zS, zS⟩ : gr), (⟨zS, zS⟩ : gr), zS⟩ : gu)]).length : Int)))).bind fun _ => ((lg (([(⟨2, (⟨(⟨#[97]⟩ : ByteArray), (⟨#[114]⟩ : ByteArray)⟩ : gr), zS, (⟨(⟨#[98]⟩ : ByteArray), (⟨#[115]⟩ : ByteArray)⟩ : gr), (⟨zS, zS⟩ : gr), zS⟩ : gu), (⟨1, (⟨(⟨#[98]⟩ : ByteArray), (⟨#[115]⟩ : ByteArray)⟩ : gr), (⟨#[100]⟩ : ByteArray), (⟨zS, zS⟩ : gr), (⟨zS, zS⟩ : gr), zS⟩ : gu)]).drop (Int.toNat 1))).bind fun c => some ((c.length : Int) == 1))) else some false).bind fun o => some o)))))))))))
def rz (a0 : gu) : Option (List gr) :=
 ((nw a0).bind fun a => (if (!a) then some [] else (if (a0.Kind == 1) then some [a0.Head] else (if (a0.Kind == 4) then some [a0.Head, a0.B, a0.C] else some [a0.Head, a0.B]))))
def ky (b : gr) : List gu → gD → Option gD
 | [], a => some a
 | c :: h, a => (((if (gB c.Head b) then some (⟨a.gr, (wi0 .i64 (a.lH + 1)), a.kM, a.pG⟩ : gD) else some a) : Option gD).bind fun d => ((((if (decide (c.Kind > 1)) then some (gB c.B b) else some false).bind fun j => (if j then some (⟨d.gr, d.lH, (wi0 .i64 (d.kM + 1)), d.pG⟩ : gD) else some d)) : Option gD).bind fun g => ((if (c.Kind == 4) then some (gB c.C b) else some false).bind fun i => (if i then (ky b h (⟨g.gr, g.lH, (wi0 .i64 (g.kM + 1)), g.pG⟩ : gD)) else (ky b h g)))))
def mA (j : List gx) (l : List gu) : List gr → (List gD) → Option (List gD)
 | [], a => some a
 | b :: c, a => ((((nD j b).bind fun g => some ((⟨b, 0, 0, (g.length : Int)⟩ : gD), (⟨(⟨zS, zS⟩ : gr), 0, 0, 0⟩ : gD))) : Option (gD × gD)).bind fun (h, k) => ((ky b l h).bind fun i => ((je 56 a ([i])).bind fun d => (mA j l c d))))
def li (g : List gx) (k : List gu) : List gu → (List gr) → Option (List gD)
 | [], a => ((vF a).bind fun i => ((mA g k i ([])).bind fun b => some b))
 | j :: c, a => ((rz j).bind fun h => ((je 32 a h).bind fun d => (li g k c d)))
def sQ (a0 : List gu) : Option (List gD) :=
 ((nR a0).bind fun b => ((tU a0).bind fun a => li a b b ([])))
def lL (c : List gx) (a : gu) (n : List ByteArray) : List ByteArray → (List gx) → Option (List gx)
 | [], b => some b
 | d :: g, b => ((oe c a n d).bind fun i => ((if i then ((kX c a.Head d).bind fun k => some (!k)) else some false).bind fun l => ((if l then ((kX b a.Head d).bind fun j => some (!j)) else some false).bind fun m => (if m then ((je 48 b ([(⟨a.Head, d⟩ : gx)])).bind fun h => (lL c a n g h)) else (lL c a n g b)))))
def kh (b : List gx) (h : List ByteArray) : List gu → (List gx) → Option (List gx)
 | [], a => some a
 | g :: c, a => ((lL b g h h a).bind fun d => (kh b h c d))
def jb (i : List ByteArray) (j : List gu) : Nat → (List gx) → (List (List gx)) → Option (List (List gx))
 | 0, _, _ => none
 | h + 1, b, c => ((kh b i j ([])).bind fun a => (if ((a.length : Int) == 0) then some c else ((je 24 c ([a])).bind fun d => ((je 48 b a).bind fun g => (jb i j h g d)))))
def mh (a0 : List gu) : Option (List (List gx)) :=
 ((nR a0).bind fun b => ((nv b).bind fun a => jb a b jg ([]) ([])))
def nN (b : gx) : List (List gx) → Nat → Option (Int × Bool)
 | [], _ => some (0, false)
 | d :: a, i55 => ((kX d b.gr b.gU).bind fun c => (if c then some ((i55 : Int), true) else (nN b a (i55 + 1))))
def so (a0 : List gu) (a : gx) : Option (Int × Bool) :=
 ((mh a0).bind fun b => nN a b 0)
def nK (a0 : List gu) (a : gx) : Option Bool :=
 (oO.bind fun k => (if (!k) then some false else ((rB a0).bind fun l => ((if (decide (l > 1000)) then some true else some (decide ((wi0 .i64 ((wi0 .i64 ((a.gU.size : Int) + (a.gr.gG.size : Int))) + (a.gr.hX.size : Int))) > 200))).bind fun h => (if h then some true else ((po a0 a).bind fun b => ((so a0 a).bind fun c => ((if (b.1 == c.1) then some (b.2 == c.2) else some false).bind fun i => ((if i then ((pn a0).bind fun d => ((mh a0).bind fun g => some (d == (g.length : Int)))) else some false).bind fun j => some j)))))))))
end
end Go.Proofs.YtbnbdigcbldfhaaGreat
