/- a part of a proof of WeighHolds -/
import Derived.Test.YtbnbdigcbldfhaaGreatRtWj
import Derived.Recover
import Derived.LaidEqlPtr
import Derived.RangeFuncRecord
import Derived.Shelf.SlSortCmp.NoneTotal
import Derived.Shelf.SortM.Plain
import Derived.Shelf.SortM.SortNone
import Derived.Shelf.SlIter.Sorted
import Derived.Shelf.SlIter.Nil
import Derived.Test.YtbnbdigcbldfhaaGreatProg
import Derived.KernelRfl
set_option linter.all false
namespace Go.Proofs.YtbnbdigcbldfhaaGreat
open Go.IntKind renaming wrap → wi0
open Go.RowKit
variable [M : Md]
theorem bS {α β : Type} {m : Option α} {f : α → Option β} {r : β} {G : Prop} (h : m.bind f = some r) (k : ∀ x, m = some x → f x = some r → G) : G :=
 let ⟨x, a, b⟩ := bind_some h
 k x a b
theorem sj {α : Type} {a b : α} (h : some a = some b) : a = b := gz h
theorem bC {α : Type} {b : Bool} {x y r : α} {G : Prop} (h : (if b = true then x else y) = r) (a : b = true → x = r → G) (c : b = false → y = r → G) : G := by
 rcases Du b with e | e
 ·exact a e (Gx e h)
 ·exact c e (GB e h)
theorem cB {a b : Bool} (h : a = b) : Value.bool a = Value.bool b := ay Value.bool h
theorem nb {a b : Nat} (h : Nat.ble a b = true := by exact rfl) : a ≤ b := Nat.le_of_ble_eq_true h
def HK : Nat → Nat → List Bool
 | 0, _ => []
 | n + 1, m => (m % 2 == 1) :: HK n (m / 2)
def bm (n m : Nat) : Array Bool := (HK n m).toArray
section
variable {P : Program} {n : Nat} {Q : kG} {E : Nat → Value} {W : World}
theorem CI {α : Type} {co : Operand} {b : Bool} {x y : Code} {A B r : α} (hm : (if b = true then A else B) = r) (a : gN E co = .bool b) (d : b = true → A = r → CW P n x Q E W) (c : b = false → B = r → CW P n y Q E W) : CW P n (.cond co x y) Q E W :=
 CR a (fun e => d e (Gx e hm)) (fun e => c e (GB e hm))
theorem CJ {σ ρ : Type} {m : Option σ} {k : σ → Option ρ} {r : ρ} {x : Code} {K : (Nat → Value) → World → Prop} (hm : m.bind k = some r) (I : σ → (Nat → Value) → World → Prop) (h1 : ∀ s, m = some s → CW P n x (lJ (I s) Q) E W) (c : ∀ s E W, I s E W → k s = some r → K E W) : CW P n x (lJ K Q) E W :=
 let ⟨s, a, b⟩ := bind_some hm
 D2 (I s) (h1 s a) (fun E W h => c s E W h b)
theorem FD {σ ρ c : Type} {m : Option (c ⊕ σ)} {k : c ⊕ σ → Option ρ} {r : ρ} {x : Code} {K : (Nat → Value) → World → Prop} (hm : m.bind k = some r) (I : σ → (Nat → Value) → World → Prop) (h1 : ∀ s, m = some s → k s = some r → CW P n x (lJ (fun E W => ∃ t, s = .inr t ∧ I t E W) Q) E W) (d : ∀ s E W, I s E W → k (.inr s) = some r → K E W) : CW P n x (lJ K Q) E W :=
 let ⟨s, a, b⟩ := bind_some hm
 D2 (fun E W => ∃ t, s = .inr t ∧ I t E W) (h1 s a b) (fun E W ⟨t, e, h⟩ => d t E W h (by subst e; exact b))
theorem LJ {σ ρ : Type} {m : Option σ} {k : σ → Option ρ} {r : ρ} {ops : Array Oper} {rest : List Oper} (hm : m.bind k = some r) (I : σ → (Nat → Value) → World → Prop) (j : Nat) (c : ∀ s E W, I s E W → k s = some r → LW P n ops Q (rest.drop j) E W) (h1 : ∀ s, m = some s → (∀ E W, I s E W → LW P n ops Q (rest.drop j) E W) → LW P n ops Q rest E W) : LW P n ops Q rest E W :=
 let ⟨s, a, b⟩ := bind_some hm
 h1 s a (fun E W h => c s E W h b)
theorem PJ {σ ρ : Type} {m : Option σ} {k : σ → Option ρ} {r : ρ} {ops : Array Oper} {S : Array Bool → World → Prop} {fuel : Nat} {listed : Array Bool} (hm : m.bind k = some r) (I : σ → (Nat → Value) → World → Prop) (d : Array Bool) (c : Nat) (g : ∀ s E W, I s E W → k s = some r → PX P n ops Q S c d E W) (h1 : ∀ s, m = some s → (∀ E W, I s E W → PX P n ops Q S c d E W) → PX P n ops Q S fuel listed E W) : PX P n ops Q S fuel listed E W :=
 let ⟨s, a, b⟩ := bind_some hm
 h1 s a (fun E W h => g s E W h b)
theorem cF (n : Nat) {f : FuncId} {fn : Func} {c : Code} {args : List Value} {w : World} {R : Ending → World → Prop} (a : P.funcs[f]? = some fn) (b : fn.body = some c) (h : @CW sK P n c (qb P fn R) (sB args) w) (g : fn.ntmps = n := by exact rfl) (d : args.length ≤ n := by exact nb) : Calls P f args.toArray w R := sI a b g d h
end
section
variable {dd : Bool} {P : Program} {fn : Func} {E : Nat → Value} {W w : World} {μ : iq} {L : List (Nat × Obj)}
theorem rP {t : Tmp} {v : Value} (a : ST dd iE w W μ L) (b : fn.results = #[.tmp t] := by exact rfl) (c : E t = v := by exact rfl) : qb P fn (fun e W' => e = .returned v ∧ Ex dd w W') .ret E W := iS b c ⟨rfl, a.ex⟩
end
theorem ST.HR {dd : Bool} {F : Nat → Prop} {w W : World} {μ : iq} {x : Nat × Obj} {L : List (Nat × Obj)} (h : ST dd F w W μ (x :: L)) : ST dd F w W μ ([x] ++ L) := h
theorem ST.Gz {dd : Bool} {F : Nat → Prop} {w W : World} {μ : iq} {L : List (Nat × Obj)} (h : ST dd F w W μ L) : ST dd F w W μ ([] ++ L) := h
theorem aL {E : Nat → Value} {ax : Array Operand} {l : List Value} (h : ax.toList.map (gN E) = l) : ax.map (gN E) ++ (#[] : Array Value) = l.toArray := by subst h; apply Array.ext'; simp
section
variable {dd : Bool}
variable {P : Program} {E : Nat → Value} {W : World} {d : Option Nat} {ty : TypeId} {pos : String} {af : Array Edge} {g : Option (Nat × Bool)}
 {F : Nat → Prop} {w : World} {μ : iq} {L : List (Nat × Obj)}
variable {f : FuncId} {fv : Operand} {ax : Array Operand} {ats : Array TypeId} {args : List Value} {v : Value} {K : Value → World → Prop}
theorem Eg (a : ST dd F w W μ L) (he : ∀ args w, (callFunc f args).run P w = .ok (.enter f args) w) (c : iG dd P f args W v) (h : ∀ W', ST dd F w W' μ L → K v W') (i : gN E fv = .func (.func f) #[] #[] := by exact rfl) (b : ax.toList.map (gN E) = args := by exact rfl) : jJ P E ⟨d, .call ⟨.value fv, ax, ats⟩, ty, pos, af, g⟩ W K := Gn a i he (aL b) c h
theorem nt {α : Type} {e : TypeId} {enc : α → List Value} {k : Nat} {l : List α} {Y : List (Nat × Obj)} (a : ST dd F w W μ Y) (he : ∀ args w, (callFunc f args).run P w = .ok (.enter f args) w) (c : iY dd P f args W e enc k l) (h : ∀ W' v μ' R, ST dd F w W' μ' (R ++ Y) → iH μ μ' → Lo F w μ μ' → hZ e enc k v l R → K v W') (i : gN E fv = .func (.func f) #[] #[] := by exact rfl) (b : ax.toList.map (gN E) = args := by exact rfl) : jJ P E ⟨d, .call ⟨.value fv, ax, ats⟩, ty, pos, af, g⟩ W K := CQ _ a i he (aL b) c h
theorem wk {K' : Value → List (Nat × Obj) → World → Prop} {L0 L2 : List (Nat × Obj)} (i : ST dd F w W μ L) (j : L.Perm (L0 ++ L2)) (he : ∀ args w, (callFunc f args).run P w = .ok (.enter f args) w) (l : wM L0 W → (L0.map (·.1)).Nodup → iH μ (pS W L0) → (∀ b o, (b, o) ∈ L2 → pS W L0 b = some o) → iF dd P f args W L0 K') (h : ∀ W' v μ' L1, ST dd F w W' μ' (L1 ++ L2) → iH μ μ' → Lo F w μ μ' → (∀ b, W.heap.size ≤ b → ∀ o, pS W' L1 b = some o → μ' b = some o) → K' v L1 W' → K v W') (m : gN E fv = .func (.func f) #[] #[] := by exact rfl) (k : ax.toList.map (gN E) = args := by exact rfl) : jJ P E ⟨d, .call ⟨.value fv, ax, ats⟩, ty, pos, af, g⟩ W K :=
 Gq L0 L2 i j m he (aL k) (fun a b c d => by have := l a b c d; simpa using this) h
end
end Go.Proofs.YtbnbdigcbldfhaaGreat
namespace Go.Proofs.YtbnbdigcbldfhaaGreat
open Go.IntKind renaming wrap → wi0
open Go.RowKit
def Ia (R : List (Nat × Obj)) (k : Nat) (p : Value) (i a : Nat) : Prop := ∃ g o, R = [(g, o)] ∧ p = .pointer (some ⟨g, i * k + a, none⟩)
theorem vW.f {R : List (Nat × Obj)} {k : Nat} {p : Value} {i : Nat} (h : vW R k p i) : Ia R k p i 0 := h
section
variable {P : Program} {E : Nat → Value} {W : World} {d : Option Nat} {ty : TypeId} {pos : String} {af : Array Edge} {g : Option (Nat × Bool)}
 {dd : Bool} {F : Nat → Prop} {w : World} {μ : iq} {L : List (Nat × Obj)} {α : Type} {e' : TypeId} {enc : α → List Value} {k : Nat} {v : Value} {l : List α} {R : List (Nat × Obj)}
theorem hZ.put (h : hZ e' enc k v l R) (hk : ∀ x, (enc x).length = k) {p : Value} {i : Nat} (hp : vW R k p i) {x0 : α} (q : l[i]? = some x0) (x1 : α) :
  ∃ g a, R = [(g, .cells a e' (0, 0))] ∧ p = .pointer (some ⟨g, i * k, none⟩) ∧ i * k + k ≤ a.size ∧ (∀ j y, (enc x0)[j]? = some y → a[i * k + j]? = some y) ∧
   hZ e' enc k v (l.set i x1) [(g, .cells (a.toList.take (i * k) ++ enc x1 ++ a.toList.drop (i * k + k)).toArray e' (0, 0))] := by
 have m : i < l.length := (aD.1 q).1
 obtain ⟨g', a, cap, rfl, rfl, o, t, d, u, rfl, w⟩ := tH h hk hp q
 have hle : i * k + k ≤ cap * k := by
  have : (i + 1) * k ≤ cap * k := aR _ (by omega)
  rwa [aW, fL] at this
 have b : i * k + k ≤ l.length * k := by
  have : (i + 1) * k ≤ l.length * k := aR _ (by omega)
  rwa [aW, fL] at this
 have hlen : l.length * k ≤ cap * k := aR _ o
 refine ⟨g', a, rfl, rfl, by rw [d]; exact hle, w, .inr ⟨g', cap, _, by simp, rfl, by simpa using o, t, ?_, ?_⟩⟩
 ·show ((a.toList.take (i * k) ++ (enc x1) ++ a.toList.drop (i * k + k)).toArray).size = _
  have c : a.toList.length = cap * k := by simpa using d
  rw [bU, ag, ag, bl, cn, hk, c, bB (by omega)]; omega
 ·rw [eX, xR hk l i x1 m, ← u]
  have r : (a.toList.take (l.length * k)).take (i * k) = a.toList.take (i * k) := by rw [dD]; congr 1; omega
  have s : (a.toList.take (l.length * k)).drop (i * k + k) = (a.toList.drop (i * k + k)).take (l.length * k - (i * k + k)) := by rw [eE]
  rw [r, s]
  show List.take (l.length * k) (a.toList.take (i * k) ++ enc x1 ++ a.toList.drop (i * k + k)) = _
  have c : a.toList.length = cap * k := by simpa using d
  have n : (a.toList.take (i * k) ++ enc x1).length = i * k + k := by rw [ag, bl, hk, c, bB (by omega)]
  rw [di, bk (by rw [n]; exact b), n]
end
variable [M : Md]
theorem oc {v : Value} (h : v.cells.toList.all Value.oneCell' = true := by exact rfl) : ∀ u ∈ v.cells.toList, u.oneCell' = true := gi.1 h
theorem dc {p : Prop} [Decidable p] (h : p := by decide) : p := h
theorem kr {p : Prop} (h : p := by kernel_rfl) : p := h
theorem br {α : Sort _} {a b : α} (h : a = b := by rfl) : a = b := h
abbrev LO := List (Nat × Obj)
abbrev Ob (c : Array Value) (t : TypeId) : Obj := .cells c t (0, 0)
abbrev Ol (c : List Value) (t : TypeId) : Obj := .cells c.toArray t (0, 0)
theorem lm {P : Program} {t e : TypeId} {m k : Nat} {z : Value} {qs : Array (Nat × Value)} {cs : Array Value} (g : P.underlying t = some (.slice e)) (d : ∀ w, (sizeOf e).run P w = .ok k w) (j : ∀ w, (zeroValue e).run P w = .ok z w) (hm : m * k ≤ 16777216 := by decide) (c : qs.toList = (qs.toList.map (·.2)).zipIdx.map (fun p => (p.2, p.1)) := by exact rfl) (i : (qs.toList.map (·.2)).all (fun v => v.cells.size == k) = true := by exact rfl) (b : (qs.toList.map (·.2)).length = m := by exact rfl) (a : ((qs.toList.map (·.2)).flatMap (fun v => v.cells.toList)).toArray = cs := by exact rfl) (W : World) :
  (Instr.buildSlice t m qs).run P W = .ok (.slice (some ⟨W.heap.size, 0, none⟩) m m) (W.alloc (.cells cs e (0, 0))) :=
 vp _ g d j hm c (fun v h => eq_of_beq (gi.1 i v h)) b a W
section
variable {dd : Bool} {P : Program} {fn : Func} {E : Nat → Value} {W w : World} {μ : iq} {L L0 : List (Nat × Obj)}
theorem rQ {α : Type} {f : α → Value} {a r : α} {t : Tmp} (hm : some a = some r) (b : ST dd iE w W μ L) (c : fn.results = #[.tmp t] := by exact rfl) (d : E t = f a := by exact rfl) : qb P fn (fun e W' => e = .returned (f r) ∧ Ex dd w W') .ret E W := by
 obtain rfl := sj hm; exact iS c d ⟨rfl, b.ex⟩
theorem cG (n : Nat) {f : FuncId} {c : Code} {args : List Value} {v : Value} (a : P.funcs[f]? = some fn) (b : fn.body = some c) (h : ST dd iE w w (hp w) [] → @CW sK P n c (qb P fn (fun e i => e = .returned v ∧ Ex dd w i)) (sB args) w) (g : fn.ntmps = n := by exact rfl) (d : args.length ≤ n := by exact nb) : iG dd P f args w v := sI a b g d (h (ST.start w))
theorem qS {K : Value → List (Nat × Obj) → World → Prop} (n : Nat) {f : FuncId} {c : Code} {args : List Value} (a : P.funcs[f]? = some fn) (d : fn.body = some c) (h : ST dd iE w w (hp w) [] → @CW sK P n c (qb P fn (fun e b => ∃ v L1, e = .returned v ∧ oE dd [] L1 w b ∧ K v L1 b)) (sB args) w) (i : fn.ntmps = n := by exact rfl) (g : args.length ≤ n := by exact nb) : iF dd P f args w [] K := sI a d i g (h (ST.start w))
theorem tj {K : Value → List (Nat × Obj) → World → Prop} (d : qn μ L0 w) (n : Nat) {f : FuncId} {c : Code} {args : List Value} (a : P.funcs[f]? = some fn) (g : fn.body = some c) (h : ST dd (keys L0) w w μ L0 → @CW sK P n c (qb P fn (fun e b => ∃ v L1, e = .returned v ∧ oE dd L0 L1 w b ∧ K v L1 b)) (sB args) w) (j : fn.ntmps = n := by exact rfl) (i : args.length ≤ n := by exact nb) : iF dd P f args w L0 K := sI a g j i (h (ST.Ec d))
end
section
variable {dd : Bool}
variable {P : Program} {E : Nat → Value} {W : World} {d : Option Nat} {ty : TypeId} {pos : String} {af : Array Edge} {g : Option (Nat × Bool)}
 {F : Nat → Prop} {w : World} {μ : iq} {L : List (Nat × Obj)}
variable {f : FuncId} {fv : Operand} {ax : Array Operand} {ats : Array TypeId} {args : List Value} {v : Value} {K : Value → World → Prop}
theorem eM {K' : Value → List (Nat × Obj) → World → Prop} {L0 L2 : List (Nat × Obj)} (i : ST dd F w W μ L) (j : L.Perm (L0 ++ L2)) (he : ∀ args w, (callFunc f args).run P w = .ok (.enter f args) w) (l : qn (pS W L0) L0 W → iH μ (pS W L0) → iF dd P f args W L0 K') (h : ∀ W' v μ' L1, ST dd F w W' μ' (L1 ++ L2) → iH μ μ' → Lo F w μ μ' → (∀ b, W.heap.size ≤ b → ∀ o, pS W' L1 b = some o → μ' b = some o) → K' v L1 W' → K v W') (m : gN E fv = .func (.func f) #[] #[] := by exact rfl) (k : ax.toList.map (gN E) = args := by exact rfl) : jJ P E ⟨d, .call ⟨.value fv, ax, ats⟩, ty, pos, af, g⟩ W K :=
 wk i j he (fun a b c _ => l ⟨a, b, iH.refl _⟩ c) h m k
end
def DG (op : BinOp) : Value → Value → Option Value
 | .int k a, .int k' b => if k = k' then AI k op a b else none
 | _, _ => none
def GA (i : Nat) : Value → Option Value
 | .tuple vs => vs[i]?
 | _ => none
def AM : Value → Bool
 | .pointer (some ⟨_, _, none⟩) => true
 | _ => false
def Hd (o : Nat) : Value → Value
 | .pointer (some ⟨b, k, none⟩) => .pointer (some ⟨b, k + o, none⟩)
 | v => v
theorem Ak {v : Value} (h : AM v = true) : ∃ b k, v = .pointer (some ⟨b, k, none⟩) := by
 unfold AM at h; split at h
 ·exact ⟨_, _, rfl⟩
 ·cases h
section
variable {P : Program} {n : Nat} {Q : kG} {E : Nat → Value} {W : World} {ops : Array Oper} {rest : List Oper}
 {d j t : Nat} {want b : Bool} {v : Value} {ins : Go.Op} {ty : TypeId} {pos : String} {af : Array Edge} {A : Value → Prop} {x y : Operand}
theorem Wm (h : LW P n ops Q rest (jV E d (gN E x)) W) (a : d < n := by decide) : LW P n ops Q (⟨some d, .move x, ty, pos, af, none⟩ :: rest) E W := V (gW rfl) h a
theorem Wa (h : LW P n ops Q rest (jV E d (gN E x)) W) (a : d < n := by decide) : LW P n ops Q (⟨some d, .assign x, ty, pos, af, none⟩ :: rest) E W := V (kh rfl) h a
theorem Wh (b : gN E x = v) (h : LW P n ops Q rest (jV E d v) W) (a : d < n := by decide) : LW P n ops Q (⟨some d, .move x, ty, pos, af, none⟩ :: rest) E W := V (gW b) h a
theorem Wg (b : gN E x = v) (h : LW P n ops Q rest (jV E d v) W) (a : d < n := by decide) : LW P n ops Q (⟨some d, .assign x, ty, pos, af, none⟩ :: rest) E W := V (kh b) h a
theorem Wx {i : Nat} (a : GA i (gN E x) = some v) (h : LW P n ops Q rest (jV E d v) W) (b : d < n := by decide) : LW P n ops Q (⟨some d, .extract x i, ty, pos, af, none⟩ :: rest) E W := by
 unfold GA at a; split at a
 ·rename_i vs e; exact V (pC e a) h b
 ·cases a
theorem Wi {op : BinOp} {m l : TypeId} (c : DG op (gN E x) (gN E y) = some v) (h : LW P n ops Q rest (jV E d v) W) (j : d < n := by decide) : LW P n ops Q (⟨some d, .binOp op m x y l, ty, pos, af, none⟩ :: rest) E W := by
 unfold DG at c; split at c
 ·rename_i k a k' b g i
  split at c
  ·rename_i e; subst e; exact V (jz g i c) h j
  ·cases c
 ·cases c
theorem Wf {t : TypeId} {f off : Nat} (a : jF P t f off) (h : LW P n ops Q rest (jV E d (Hd off (gN E x))) W) (hp : AM (gN E x) = true := by exact rfl) (c : d < n := by decide) : LW P n ops Q (⟨some d, .fieldAddr t x f, ty, pos, af, none⟩ :: rest) E W := by
 obtain ⟨b, k, e⟩ := Ak hp
 refine V (gQ a e) ?_ c
 rw [e] at h; exact h
theorem Wn (h : LW P n ops Q rest (jV E d (gN E x)) W) (hp : AM (gN E x) = true := by exact rfl) (a : d < n := by decide) : LW P n ops Q (⟨some d, .nilCheck x, ty, pos, af, none⟩ :: rest) E W := by
 obtain ⟨b, k, e⟩ := Ak hp
 refine V (jB e) ?_ a
 rw [e] at h; exact h
theorem un (h : b = !want) (k : LW P n ops Q rest (jV E d undef) W) (c : (ops[j]?).bind (·.dst) = some t := by exact rfl) (a : E t = .bool b := by exact rfl) (i : t < n := by decide) (g : d < n := by decide) :
  LW P n ops Q (⟨some d, ins, ty, pos, af, some (j, want)⟩ :: rest) E W := Vn c (by rw [a, h]) k i g
theorem ug (h : b = want) (i : iT P E ⟨some d, ins, ty, pos, af, some (j, want)⟩ W v W) (k : LW P n ops Q rest (jV E d v) W) (c : (ops[j]?).bind (·.dst) = some t := by exact rfl) (a : E t = .bool b := by exact rfl) (l : t < n := by decide) (g : d < n := by decide) :
  LW P n ops Q (⟨some d, ins, ty, pos, af, some (j, want)⟩ :: rest) E W := Vg c (by rw [a, h]) i k l g
theorem qN (h : b = want) (k : jJ P E ⟨some d, ins, ty, pos, af, some (j, want)⟩ W fun v W' => LW P n ops Q rest (jV E d v) W') (c : (ops[j]?).bind (·.dst) = some t := by exact rfl) (a : E t = .bool b := by exact rfl) (i : t < n := by decide) (g : d < n := by decide) :
  LW P n ops Q (⟨some d, ins, ty, pos, af, some (j, want)⟩ :: rest) E W := G5 c (by rw [a, h]) k i g
theorem H3 (h : b = want) (i : ∃ p, A p ∧ ∀ W, iT P E ⟨some d, ins, ty, pos, af, some (j, want)⟩ W p W) (k : ∀ p, A p → LW P n ops Q rest (jV E d p) W) (c : (ops[j]?).bind (·.dst) = some t := by exact rfl) (a : E t = .bool b := by exact rfl) (l : t < n := by decide) (g : d < n := by decide) :
  LW P n ops Q (⟨some d, ins, ty, pos, af, some (j, want)⟩ :: rest) E W := Ic c (by rw [a, h]) i k l g
section
variable {dd : Bool} {F : Nat → Prop} {w : World} {μ : iq} {L : List (Nat × Obj)} {T : TypeId} {a off : Nat} {cs : Array Value} {fr : Nat × Nat}
theorem VA {t : TypeId} (c : ST dd F w W μ L) (i : (a, Obj.cells cs T fr) ∈ L) (b : List Value) (g : ∀ w, (isAgg t).run P w = .ok true w) (j : ∀ w, (sizeOf t).run P w = .ok b.length w) (h : LW P n ops Q rest (jV E d (.agg b.toArray)) W) (l : gN E x = .pointer (some ⟨a, off, none⟩) := by exact rfl) (m : (cs.toList.drop off).take b.length = b := by exact rfl) (k : d < n := by decide) : LW P n ops Q (⟨some d, .load t x, ty, pos, af, none⟩ :: rest) E W := V (gM l (gY c.has i b m g j)) h k
theorem VB {t : TypeId} (b : ST dd F w W μ L) (g : (a, Obj.cells cs T fr) ∈ L) (j : gN E x = .pointer (some ⟨a, off, none⟩)) (k : cs[off]? = some v) (c : ∀ w, (isAgg t).run P w = .ok false w) (h : LW P n ops Q rest (jV E d v) W) (i : d < n := by decide) : LW P n ops Q (⟨some d, .load t x, ty, pos, af, none⟩ :: rest) E W := V (gM j (ia b.has g k c)) h i
end
section
variable {K : (Nat → Value) → World → Prop} {Q' : kG} {c : Code} {id id2 : Nat} {l : List Oper} {z : Code}
theorem sg (h : LW P n l.toArray (lJ (fun E W => CW P n c Q E W) Q) l E W) : CW P n (.seq (.region id l.toArray false) c) Q E W := hX (gZ h)
theorem ln (h : K E W) : LW P n ops (lJ K Q) [] E W := ig (gV h)
theorem lr (h : LW P n l.toArray (lJ (fun E W => CW P n c Q E W) Q) l E W) : LW P n ops (lJ (fun E W => CW P n (.seq (.region id l.toArray false) c) Q E W) Q') [] E W := ig (gV (hX (gZ h)))
theorem lS (h : LW P n l.toArray (lJ (fun E W => CW P n c (lJ (fun E W => CW P n z Q E W) Q) E W) (lJ (fun E W => CW P n z Q E W) Q)) l E W) : LW P n ops (lJ (fun E W => CW P n (.seq (.seq (.region id l.toArray false) c) z) Q E W) Q') [] E W := ig (gV (hX (hX (gZ h))))
theorem bg (h : LW P n l.toArray (lJ (fun E W => CW P n c (qu id2 Q) E W) (qu id2 Q)) l E W) : CW P n (.block id2 (.seq (.region id l.toArray false) c)) Q E W := jy (hX (gZ h))
theorem kg (h : LW P n l.toArray (lJ (fun E W => CW P n c Q E W) Q) l E W) : CW P n .skip (lJ (fun E W => CW P n (.seq (.region id l.toArray false) c) Q E W) Q') E W := iO (gV (hX (gZ h)))
theorem kS (h : LW P n l.toArray (lJ (fun E W => CW P n c (lJ (fun E W => CW P n z Q E W) Q) E W) (lJ (fun E W => CW P n z Q E W) Q)) l E W) : CW P n .skip (lJ (fun E W => CW P n (.seq (.seq (.region id l.toArray false) c) z) Q E W) Q') E W := iO (gV (hX (hX (gZ h))))
theorem lt (h : Q .ret E W) : LW P n ops (lJ (fun E W => CW P n .ret Q E W) Q') [] E W := ig (gV (iD h))
theorem kn (h : K E W) : CW P n .skip (lJ K Q) E W := iO (gV h)
end
end
theorem lW.GU {α : Type} {dd : Bool} {w W : World} {μ : iq} {L R : List (Nat × Obj)} {e : TypeId} {enc : α → List Value} {k : Nat} {v : Value} {l : List α} (h : lW e enc k v l R) (c : ST dd iE w W μ L) (i : ∀ p, p ∈ R → p ∈ L) : Fr w.heap.size v := by
 rcases h with ⟨rfl, rfl, rfl⟩ | ⟨g, off, cap, a, rfl, rfl, h1, j, m, n⟩
 ·exact Fr.nil _
 ·intro b d
  simp [Value.ownBlock] at d
  subst d
  rcases (c.box g (.cells a e (0, 0)) (i _ (au.2 rfl))).2.2 with h | h
  ·exact h
  ·exact h.elim
theorem yI.mono {α β : Type} {P : Program} {fv : Value} {μ μ0 : iq} {av : α → List Value} {a : β → Value} {pm : α → Option β} (h : yI P fv μ av a pm) (d : iH μ μ0) : yI P fv μ0 av a pm := by
 obtain ⟨f, caps, h1, b, c⟩ := h
 exact ⟨f, caps, h1, b, fun W x r h => c W x r (d.trans h)⟩
theorem yI.form {α β : Type} {P : Program} {fv : Value} {μ : iq} {av : α → List Value} {c : β → Value} {pm : α → Option β} (h : yI P fv μ av c pm) : ∃ f a b, fv = .func f a b := let ⟨f, b, h, _⟩ := h; ⟨_, _, b, h⟩
noncomputable def xq {κ α : Type} (a : Nat) (f : α × α → Option Int) (l : List (κ × α)) : Option (List α) :=
 if l.length * a ≤ 140737488355328 ∧ l.length ≤ maxLen then sO (l.map (·.2)) (rV f) else none
theorem CN {κ α : Type} {a : Nat} {f : α × α → Option Int} {l : List (κ × α)} {r : List α} (h : xq a f l = some r) : l.length * a ≤ 140737488355328 ∧ l.length ≤ maxLen ∧ ∀ o, o.Perm (l.map (·.2)) → rV f o = some r := by
 unfold xq at h
 split at h
 ·rename_i b; exact ⟨b.1, b.2, zK h⟩
 ·cases h
end Go.Proofs.YtbnbdigcbldfhaaGreat
namespace Go.Proofs.YtbnbdigcbldfhaaGreat
open Go.IntKind renaming wrap → wi0
open Go.RowKit
section
variable {P : Program} {W : World} {E : Nat → Value} {d : Option Nat} {ty : TypeId} {pos : String} {af : Array Edge} {g : Option (Nat × Bool)}
theorem Gt {t : TypeId} {x : Operand} {v : Value} {u : TypeDesc} (a : P.underlying t = some u) (hu : ∀ q, u ≠ .interface q) (b : gN E x = v) : iT P E ⟨d, .makeInterface t x, ty, pos, af, g⟩ W (.iface t v) W := by
 show (do let r ← Instr.makeInterface t (gN E x); pure (.value r) : Sem Next).run P W = _
 rw [b]
 unfold Instr.makeInterface
 simp only [aT, al a, aK]
 cases u <;> simp_all
end
section
variable {P : Program} {n : Nat} {E : Nat → Value} {W : World} {c y : Code} {a : Act} {cs : List Frame} {Q : Exit → Act → List Frame → World → Prop}
theorem Fo {args : List Value} {fn : Func} {n : Nat} (b : fn.ntmps = n) (h : args.length ≤ n) : Ag n { tmps := args.toArray ++ Array.replicate (fn.ntmps - args.toArray.size) undef, defers := [] } (sB args) := by
 refine ⟨by simp; omega, rfl, fun t => ?_⟩
 simp only [sB, cH, List.getD_eq_getElem?_getD, eJ, Array.getElem?_replicate, bU, dN]
 by_cases a : t < args.length
 ·rw [an a]
 ·rw [ak a, cN (by omega)]
  split <;> simp
end
theorem qx.form {κ γ : Type} {kenc : κ → Value} {Q : Value → γ → List (Nat × Obj) → Prop} {μ : iq} {v : Value} {l : List (κ × γ)} (h : qx kenc Q μ v l) : ∃ m, v = .map m := by
 obtain ⟨a, R, h, _⟩ := h
 obtain ⟨m, rfl⟩ := h.form
 exact ⟨_, rfl⟩
theorem Ea {M : Md} {n : Nat} {P : Program} {l : Nat} {f : FuncId} {tmps : Array Value} {ax body : Code} {w : World} {R : Ending → World → Prop} : RoundIn M.F n P l f tmps ax body w R ↔ RoundIn Fence.wide n P l f tmps ax body w R := Iff.rfl
def Fg (P : Program) (E : Nat → Value) (o : Oper) (W : World) (K : Value → World → Prop) : Prop :=
 ∃ l fn tmps ax body, (execOp (gN E) o).run P W = .ok (.round l fn tmps ax body) W ∧ RoundIn Fence.wide 0 P l fn tmps ax body W fun e a => ∃ v, e = .returned v ∧ K v a
section
variable [M : Md] {P : Program} {n : Nat} {Q : kG} {E : Nat → Value} {W : World} {ops : Array Oper} {rest : List Oper} {o : Oper}
theorem HO {dd : Nat} (hw : np n ops E o) (d : o.dst = some dd) (i : dd < n) (h : Fg P E o W fun v W' => LW P n ops Q rest (jV E dd v) W') : LW P n ops Q (o :: rest) E W := fun a b => by
 obtain ⟨l, fn, tmps, ax, body, h1, c⟩ := h
 unfold wpListIn
 rw [an (hw.of b)]
 unfold Oper.wpIn
 refine ⟨fun _ _ => trivial, ?_⟩
 rw [b.eval, rz h1 (by simp), Oper.uponIn_round]
 refine ⟨fun e => (nomatch (show (none : Option Nat).isSome = true from e)), RoundIn.mono (Ea.2 c) ?_⟩
 rintro e j ⟨v, rfl, g⟩
 simp only [d]
 exact g _ (b.put i v)
theorem VY {d : Nat} {ins : Op} {ty : TypeId} {pos : String} {af : Array Edge} (h : Fg P E ⟨some d, ins, ty, pos, af, none⟩ W fun v W' => LW P n ops Q rest (jV E d v) W') (a : d < n := by decide) : LW P n ops Q (⟨some d, ins, ty, pos, af, none⟩ :: rest) E W := HO (.inl rfl) rfl a h
end
def ym {σ α β : Type} (P : Program) (fv : Value) (μ : iq) (Inv : σ → List (Nat × Obj) → Prop) (av : α → List Value) (a : β → Value) (fs : σ → α → Option (β × σ)) : Prop :=
 ∃ l, fv = .func (.yield l) #[] #[] ∧
  ∀ W s x r R, iH μ (pS W R) → Inv s R → wM R W → (R.map (·.1)).Nodup → fs s x = some r →
   ∃ fn tmps ax body, (Instr.yield l (av x).toArray).run P W = .ok (.round l fn tmps ax body) W ∧
    RoundIn Fence.wide 0 P l fn tmps ax body W fun e b => ∃ v R', e = .returned v ∧ oE false R R' W b ∧ v = a r.1 ∧ Inv r.2 R'
section
variable {P : Program} {F : Nat → Prop} {w W : World} {μ : iq} {L : List (Nat × Obj)} {E : Nat → Value} {d : Option Nat} {ty : TypeId} {pos : String} {af : Array Edge} {g : Option (Nat × Bool)}
theorem ym.mono {σ α β : Type} {fv : Value} {μ0 : iq} {Inv : σ → List (Nat × Obj) → Prop} {av : α → List Value} {a : β → Value} {fs : σ → α → Option (β × σ)} (h : ym P fv μ Inv av a fs) (c : iH μ μ0) : ym P fv μ0 Inv av a fs := by
 obtain ⟨l, h1, b⟩ := h
 exact ⟨l, h1, fun W s x r R h => b W s x r R (c.trans h)⟩
theorem He {σ α β : Type} {K : Value → World → Prop} {μ0 : iq} {fv : Value} {Inv : σ → List (Nat × Obj) → Prop} {av : α → List Value} {n : β → Value} {fs : σ → α → Option (β × σ)} {i : Operand} {ax : Array Operand} {ats : Array TypeId} (s : σ) (x : α) {r : β × σ} {R : List (Nat × Obj)} (L2 : List (Nat × Obj)) (a : ST false F w W μ L) (b : L.Perm (R ++ L2)) (A : ym P fv μ0 Inv av n fs) (I : iH μ0 μ) (u : Inv s R) (G : gN E i = fv) (y : ax.map (gN E) ++ (#[] : Array Value) = (av x).toArray) (hm : fs s x = some r) (h : ∀ W' μ' R', ST false F w W' μ' (R' ++ L2) → iH μ μ' → Lo F w μ μ' → Inv r.2 R' → K (n r.1) W') : Fg P E ⟨d, .call ⟨.value i, ax, ats⟩, ty, pos, af, g⟩ W K := by
 obtain ⟨l, rfl, o⟩ := A
 have k : ax.map (gN E) = (av x).toArray := by simpa using y
 obtain ⟨fn, tmps, c, body, p, q⟩ := o W s x r R (I.trans (a.EY b)) u (a.held b) (a.E7 b) hm
 refine ⟨l, fn, tmps, c, body, ?_, RoundIn.mono q ?_⟩
 ·show (do let d ← resolve (gN E) ⟨.value i, ax, ats⟩ ty; invoke d.target d.args : Sem Next).run P W = _
  rw [← p]
  simp [resolve, G, k, Deferred.ofValue, invoke]
 ·rintro e m ⟨v, R', rfl, t, rfl, j⟩
  exact ⟨_, rfl, h m _ R' ((a.perm b).back t) ((a.perm b).wU m R') ((a.perm b).yc m R') j⟩
end
abbrev zV (l : Nat) : Md := ⟨some l, []⟩
abbrev Ej (D : List Deferred) : Md := ⟨none, D⟩
def Hx (n : Nat) (Q : List Deferred → kG) (e : Exit) (a : Act) (w : World) : Prop := ∃ D, @lift (Ej D) n (Q D) e a w
def yP (P : Program) (n : Nat) (c : Code) (Q : List Deferred → kG) (E : Nat → Value) (W : World) : Prop := ∀ a, @Ag sK n a E → c.wpIn Fence.wide 0 P (Hx n Q) a W
def GH (E : Nat → Value) (l : List (Nat × Value)) : Nat → Value := l.foldl (fun E p => jV E p.1 p.2) E
def Hb (l : Nat) (K : Value → World → Prop) : kG
 | .normal, _, w => ∃ r, w.heap[l]? = some (.loop r) ∧ K (.bool true) (w.putObj l (.loop { r with state := .ready, pending := none }))
 | .ret, _, w => ∃ r, w.heap[l]? = some (.loop r) ∧ K (.bool false) (w.putObj l (.loop { r with state := .done, pending := some .ret }))
 | .exit id, _, w => ∃ r, w.heap[l]? = some (.loop r) ∧ K (.bool false) (w.putObj l (.loop { r with state := .done, pending := some (.exit id) }))
 | _, _, _ => False
def Gy (l : Nat) (Q : kG) (E : Nat → Value) (w : World) : Prop :=
 ∃ r, w.heap[l]? = some (.loop r) ∧ r.state ≠ .busy ∧
  ((r.pending = none ∧ Q .normal E (w.putObj l (.loop { r with state := .exhausted }))) ∨ (r.pending = some .ret ∧ Q .ret E (w.putObj l (.loop { r with state := .exhausted }))) ∨
   (∃ id, r.pending = some (.exit id) ∧ Q (.exit id) E (w.putObj l (.loop { r with state := .exhausted }))))
section
variable {P : Program} {n : Nat} {Q : List Deferred → kG} {E : Nat → Value} {W : World} {c x y : Code}
theorem Co (h : @CW sK P n x (lJ (fun E W => yP P n y Q E W) (Q [])) E W) : yP P n (.seq x y) Q E W := fun a d =>
 wpIn_seq (dC (h a d) (fun e c i h => by
  cases e with
  | normal => obtain ⟨E', b, g⟩ := h; exact g c b
  | _ => exact ⟨[], h⟩))
theorem Hk (h : yP P n x (fun D => lJ (fun E W => @CW (Ej D) P n y (Q D) E W) (Q D)) E W) : yP P n (.seq x y) Q E W := fun a d =>
 wpIn_seq (dC (h a d) (fun e c i ⟨D, h⟩ => by
  cases e with
  | normal => obtain ⟨E', b, g⟩ := h; exact dC (g c b) (fun _ _ _ h => ⟨D, h⟩)
  | _ => exact ⟨D, h⟩))
theorem DU {id : Nat} (h : yP P n c (fun D => qu id (Q D)) E W) : yP P n (.block id c) Q E W := fun a i =>
 wpIn_block (dC (h a i) (fun e k l ⟨D, h⟩ => by
  cases e with
  | exit j =>
   obtain ⟨E', b, d⟩ := h
   simp only [Exit.inBlock]
   simp only [qu] at d
   split at d
   ·rename_i g; rw [an g]; exact ⟨D, E', b, d⟩
   ·rename_i g; rw [ak g]; exact ⟨D, E', b, d⟩
  | _ => exact ⟨D, h⟩))
theorem CC {M : Md} : ∀ (l : List (Nat × Value)) {a : Act} {E : Nat → Value}, @Ag M n a E → (∀ p ∈ l, p.1 < n) → @Ag M n { a with tmps := l.foldl (fun t p => t.setIfInBounds p.1 p.2) a.tmps } (GH E l)
 | [], _, _, h, _ => h
 | p :: l, a, E, h, hp => by
  have h1 : @Ag M n { a with tmps := a.tmps.setIfInBounds p.1 p.2 } (jV E p.1 p.2) := Ag.put h (hp p (List.mem_cons_self ..)) p.2
  exact CC l h1 (fun q b => hp q (cU _ b))
theorem Az {g : Operand} {k : Array Tmp} {assign body : Code} {f : FuncId} {caps : Array Value} (o : gN E g = .func (.func f) #[] caps) (he : ∀ args w, (callFunc f args).run P w = .ok (.enter f args) w) (h : ∀ (fn : FuncId) (tmps : Array Value), tmps.size = n → (∀ t, tmps.getD t undef = E t) →
   Calls P f (#[.func (.yield (W.heap.size + 1)) #[] #[]] ++ caps) ((W.alloc (.deferred (some []))).alloc (.loop { state := .ready, pending := none, fn, tmps, params := k, assign, body, defers := W.heap.size }))
    fun e w => (∃ v, e = .returned v) ∧ Gy (W.heap.size + 1) (Q [{ target := .collected W.heap.size, args := #[] }]) E w) : yP P n (.rangeFunc g k assign body) Q E W := fun a c => by
 refine wpIn_rangeFunc fun fn _ => ?_
 have j : resolve a.eval (rangeCall g (W.heap.size + 1)) 0 = pure { target := .fn (.func f) caps, args := #[.func (.yield (W.heap.size + 1)) #[] #[]] } := by
  rw [Ag.eval c]
  simp only [resolve, rangeCall]
  rw [o]
  simp [Deferred.ofValue, gN]
 refine ⟨_, _, _, ⟨.fn (.func f) caps, #[.func (.yield (W.heap.size + 1)) #[] #[]]⟩, _, f, #[.func (.yield (W.heap.size + 1)) #[] #[]] ++ caps, _, run_enterLoop_outer fn a.tmps k assign body, by rw [j]; rfl, fun _ _ => trivial, (by rw [show invoke (.fn (.func f) caps) #[.func (.yield (W.heap.size + 1)) #[] #[]] = callFunc f (#[.func (.yield (W.heap.size + 1)) #[] #[]] ++ caps) from rfl]; exact he _ _), fun e => (nomatch (show (none : Option Nat).isSome = true from e)), ?_⟩
 refine eD.2 (bJ (h fn a.tmps c.1 c.2.2) ?_)
 rintro e w ⟨⟨v, rfl⟩, ⟨st, pe, p, rt, s, q, r, rd⟩, h1, m, l⟩
 refine ⟨_, _, run_endLoop h1 m, ?_⟩
 simp only at l
 have b : @Ag (Ej [{ target := .collected W.heap.size, args := #[] }]) n { a with defers := [{ target := .collected W.heap.size, args := #[] }] ++ a.defers } E := ⟨c.1, by show _ ++ a.defers = _; rw [show a.defers = [] from c.2.1]; rfl, c.2.2⟩
 rcases l with ⟨d, i⟩ | ⟨d, i⟩ | ⟨id, d, i⟩
 ·subst d; exact ⟨_, E, b, i⟩
 ·subst d; exact wpIn_ret ⟨_, E, b, i⟩
 ·subst d; exact wpIn_exit ⟨_, E, b, i⟩
structure Ed (n : Nat) (ps : List Nat) (assign body : Code) (E : Nat → Value) (Lp : Loop) : Prop where
 st : Lp.state = .ready
 pe : Lp.pending = none
 params : Lp.params.toList = ps
 ax : Lp.assign = assign
 bo : Lp.body = body
 sz : Lp.tmps.size = n
 ev : ∀ t, Lp.tmps.getD t undef = E t
theorem DP {dd : Bool} {F : Nat → Prop} {w : World} {μ : iq} {L : List (Nat × Obj)} {g : Operand} {b : Array Tmp} {assign body : Code} {f : FuncId} {caps : Array Value} (a : ST dd F w W μ L) (i : gN E g = .func (.func f) #[] caps) (he : ∀ args w, (callFunc f args).run P w = .ok (.enter f args) w) (h : ∀ (l d : Nat) (Lp : Loop) (W1 : World), Ed n b.toList assign body E Lp → ST dd F w W1 μ ((l, .loop Lp) :: (d, .deferred (some [])) :: L) →
   Calls P f (#[.func (.yield l) #[] #[]] ++ caps) W1 fun e w => (∃ v, e = .returned v) ∧ Gy l (Q [{ target := .collected d, args := #[] }]) E w) : yP P n (.rangeFunc g b assign body) Q E W :=
 Az i he fun fn tmps j c => by
  have h1 := (a.alloc (.deferred (some []))).alloc (.loop { state := .ready, pending := none, fn, tmps, params := b, assign, body, defers := W.heap.size })
  rw [World.size_alloc] at h1
  exact h _ _ _ _ ⟨rfl, rfl, rfl, rfl, rfl, j, c⟩ h1
theorem Au {l : Nat} {f : FuncId} {tmps : Array Value} {assign body : Code} {K : Value → World → Prop} (m : tmps.size = n) (i : ∀ t, tmps.getD t undef = E t) (h : @CW (zV l) P n assign (fun e E1 W1 => e = .normal ∧ ∃ r, W1.heap[l]? = some (.loop r) ∧ r.state = .ready ∧ @CW (zV l) P n body (Hb l K) E1 (W1.putObj l (.loop { r with state := .busy }))) E W) :
  RoundIn Fence.wide 0 P l f tmps assign body W fun e o => ∃ v, e = .returned v ∧ K v o := by
 refine roundIn_of_wpIn trivial (dC (h _ ⟨m, rfl, i⟩) ?_)
 intro e a w b
 cases e with
 | normal =>
  obtain ⟨E1, j, _, r, h1, d, g⟩ := b
  refine ⟨_, run_beginRound h1 d, dC (g a j) ?_⟩
  intro e a w b
  cases e with
  | normal => obtain ⟨E2, _, r, h1, d⟩ := b; exact ⟨_, _, run_endRound none h1, _, rfl, d⟩
  | ret => obtain ⟨E2, _, r, h1, d⟩ := b; exact ⟨_, _, run_endRound (some .ret) h1, _, rfl, d⟩
  | exit id => obtain ⟨E2, _, r, h1, d⟩ := b; exact ⟨_, _, run_endRound (some (.exit id)) h1, _, rfl, d⟩
  | goto t => obtain ⟨E2, _, h⟩ := b; exact h.elim
  | panic c => exact b.2.elim
  | outgrown => exact b.elim
 | panic c => exact absurd b.2.1 (by simp)
 | outgrown => exact b.elim
 | _ => obtain ⟨E', k, h1, _⟩ := b; cases h1
def Fv (P : Program) (fn : Func) (R : Ending → World → Prop) (D : List Deferred) : kG := fun e E W =>
 (D = [] ∧ qb P fn R e E W) ∨ ∃ d, D = [{ target := .collected d, args := #[] }] ∧ W.heap[d]? = some (.deferred (some [])) ∧ qb P fn R e E (W.putObj d (.deferred none))
theorem BA {f : FuncId} {fn : Func} {args : List Value} {w : World} {R : Ending → World → Prop} (r : P.funcs[f]? = some fn) (q : fn.body = some c) (s : fn.ntmps = n) (p : args.length ≤ n) (h : yP P n c (fun D => Fv P fn R D) (sB args) w) : Calls P f args.toArray w R := by
 refine eD.1 (callsIn_of_wp_marks (n := 0) r q trivial (dC (h _ (Fo s p)) ?_))
 intro e a w ⟨D, b⟩
 have key : ∀ (E : Nat → Value) (e : Exit), (e = .normal ∨ e = .ret) → @Ag (Ej D) n a E → Fv P fn R D e E w → LeavesInM Fence.wide 0 P fn a.tmps R a.defers .returning w := by
  intro E e he j u
  rw [j.2.1]
  show LeavesInM Fence.wide 0 P fn a.tmps R D .returning w
  have k : ∀ w, qb P fn R e E w → LeavesInM Fence.wide 0 P fn a.tmps R [] .returning w := fun w h => by
   have i : ∃ v, (∀ tmps : Array Value, (∀ t, tmps.getD t undef = E t) → (results fn tmps).run P w = .ok v w) ∧ R (.returned v) w := by
    rcases he with rfl | rfl <;> exact h
   obtain ⟨v, m, o⟩ := i
   exact ⟨v, m _ j.2.2, o⟩
  rcases u with ⟨rfl, h⟩ | ⟨d, rfl, h1, i⟩
  ·exact k _ h
  ·refine ⟨by simp, .inl ⟨d, _, rfl, run_takeDeferred h1, k _ i⟩⟩
 cases e with
 | normal => obtain ⟨E, g, h⟩ := b; exact key E _ (.inl rfl) g h
 | ret => obtain ⟨E, g, h⟩ := b; exact key E _ (.inr rfl) g h
 | exit id => obtain ⟨E, g, h⟩ := b; rcases h with ⟨_, h⟩ | ⟨_, _, _, h⟩ <;> exact h.elim
 | goto l => obtain ⟨E, g, h⟩ := b; rcases h with ⟨_, h⟩ | ⟨_, _, _, h⟩ <;> exact h.elim
 | panic c => rcases b.2 with ⟨_, h⟩ | ⟨_, _, _, h⟩ <;> exact h.elim
 | outgrown => exact b.elim
end
def EM {σ ρ : Type} (l : Nat) (Lp : Loop) (I : σ → List (Nat × Obj) → Prop) (X : ρ → List (Nat × Obj) → Prop) : σ ⊕ ρ → List (Nat × Obj) → Prop
 | .inl s, R => ∃ R0, R = (l, .loop Lp) :: R0 ∧ I s R0
 | .inr q, R => ∃ R0 r, R = (l, .loop r) :: R0 ∧ r.state = .done ∧ r.pending = some .ret ∧ X q R0
def xn {σ ρ α : Type} (fs : σ → α → Option (σ ⊕ ρ)) : σ ⊕ ρ → α → Option (Bool × (σ ⊕ ρ))
 | .inl s, x => (fs s x).map fun | .inl a => (true, .inl a) | .inr q => (false, .inr q)
 | .inr _, _ => none
def G8 {σ ρ : Type} (w : World) (L0 : List (Nat × Obj)) (l : Nat) (Lp : Loop) (I : σ → List (Nat × Obj) → Prop) (X : ρ → List (Nat × Obj) → Prop) : σ ⊕ ρ → kG
 | .inl s, e, _, W => e = .normal ∧ ∃ μ L R, ST false (keys L0) w W μ L ∧ qc L ((l, .loop { Lp with state := .busy }) :: R) ∧ I s R
 | .inr q, e, _, W => e = .ret ∧ ∃ μ L R, ST false (keys L0) w W μ L ∧ qc L ((l, .loop { Lp with state := .busy }) :: R) ∧ X q R
section
variable {σ ρ α : Type} {P : Program} {n l : Nat} {Lp : Loop} {μ : iq} {I : σ → List (Nat × Obj) → Prop} {X : ρ → List (Nat × Obj) → Prop} {av : α → List Value} {fs : σ → α → Option (σ ⊕ ρ)} {E : Nat → Value}
theorem Br {L0 L R : List (Nat × Obj)} {w W : World} {μ : iq} {o o' : Obj} (h : ST false (keys L0) w W μ L) (b : qc L ((l, o) :: R)) : W.heap[l]? = some o ∧ oE false L0 ((l, o') :: R) w (W.putObj l o') := by
 obtain ⟨M, hm⟩ := b
 have h1 := h.perm hm
 have a : ST false (keys L0) w W μ ([] ++ (l, o) :: (R ++ M)) := h1
 exact ⟨(h1.box l o (by simp)).1, ST.AJ (L1 := (l, o') :: R) (L2 := M) (ST.setBlock (A := []) a o')⟩
theorem F8 {y : List Nat} {assign body : Code} (J : Ed n y assign body E Lp) (Y : ∀ x, (av x).length = y.length) (T : ∀ p ∈ y, p < n) (h : ∀ W s x r R0, iH μ (pS W ((l, .loop Lp) :: R0)) → I s R0 → fs s x = some r → ST false (keys ((l, .loop Lp) :: R0)) W W (pS W ((l, .loop Lp) :: R0)) ((l, .loop Lp) :: R0) →
   @CW (zV l) P n assign (fun e E1 W1 => e = .normal ∧ ∃ i L1, iH (pS W ((l, .loop Lp) :: R0)) i ∧ ST false (keys ((l, .loop Lp) :: R0)) W W1 i ((l, .loop Lp) :: L1) ∧
    ∀ W2, ST false (keys ((l, .loop Lp) :: R0)) W W2 i ((l, .loop { Lp with state := .busy }) :: L1) → @CW (zV l) P n body (G8 W ((l, .loop Lp) :: R0) l Lp I X r) E1 W2) (GH E (y.zip (av x))) W) :
  ym P (.func (.yield l) #[] #[]) μ (EM l Lp I X) av (fun b => .bool b) (xn fs) := by
 obtain ⟨U, hp, rfl, rfl, rfl, ht, hE⟩ := J
 refine ⟨l, rfl, fun W s x r R hs G hH hN L => ?_⟩
 cases s with
 | inr q => cases L
 | inl s =>
  obtain ⟨R0, rfl, G⟩ := G
  have Q : ∃ g, fs s x = some g ∧ r = (match g with | .inl m => (true, .inl m) | .inr q => (false, .inr q)) := by
   simp only [xn, Option.map_eq_some_iff] at L
   obtain ⟨g, h1, j⟩ := L
   exact ⟨g, h1, by rw [← j]⟩
  obtain ⟨g, O, rfl⟩ := Q
  have hl : W.heap[l]? = some (.loop Lp) := hH _ _ (.head _)
  have w := CC (M := zV l) (Lp.params.toList.zip (av x)) (a := ⟨Lp.tmps, []⟩) (E := E) ⟨ht, rfl, hE⟩ (fun p hp => T _ (List.of_mem_zip hp).1)
  refine ⟨_, _, _, _, run_yield hl (by simp [Y x]), ?_⟩
  have ez : (Lp.params.zip (av x).toArray).foldl (fun tmps (t, a) => tmps.setIfInBounds t a) Lp.tmps = (Lp.params.toList.zip (av x)).foldl (fun t p => t.setIfInBounds p.1 p.2) Lp.tmps := by
   rw [← Array.foldl_toList]; simp
  rw [ez]
  have u : ST false (keys ((l, .loop Lp) :: R0)) W W (pS W ((l, .loop Lp) :: R0)) ((l, .loop Lp) :: R0) := ST.D1 hH hN
  refine RoundIn.mono (Au (K := fun v w' => ∃ R', oE false ((l, .loop Lp) :: R0) R' W w' ∧ v = .bool (match g with | .inl m => (true, Sum.inl m) | .inr q => (false, .inr q)).1 ∧ EM l Lp I X (match g with | .inl m => (true, Sum.inl m) | .inr q => (false, .inr q)).2 R') w.1 w.2.2 (u4 (M := zV l) (h W s x g R0 hs G O u) ?_)) ?_
  ·rintro e E1 W1 ⟨rfl, i, L1, a1, o, hK⟩
   refine ⟨rfl, Lp, (o.box l _ (.head _)).1, U, u4 (M := zV l) (hK _ (ST.setBlock (A := []) o _)) ?_⟩
   intro e E3 W3 hq
   cases g with
   | inl m =>
    obtain ⟨rfl, Z, L3, R3, c, d, k⟩ := hq
    obtain ⟨h1, j⟩ := Br (o' := .loop Lp) c d
    refine ⟨_, h1, _, ?_, rfl, R3, rfl, k⟩
    obtain ⟨st, pe, c1, c2, c3, c4, c5, c6⟩ := Lp
    simp only at U hp
    subst U hp
    exact j
   | inr q =>
    obtain ⟨rfl, Z, L3, R3, c, d, k⟩ := hq
    obtain ⟨h1, j⟩ := Br (o' := .loop { Lp with state := .done, pending := some .ret }) c d
    exact ⟨_, h1, _, j, rfl, R3, _, rfl, rfl, rfl, k⟩
  ·rintro e w' ⟨v, rfl, R', h1, j, h3⟩
   exact ⟨v, R', rfl, h1, j, h3⟩
def sA {a α : Type} (fs : a → α → Option (Bool × a)) : a → List α → Option a
 | s, [] => some s
 | s, x :: o => match fs s x with
  | some (true, b) => sA fs b o
  | some (false, b) => some b
  | none => none
end
theorem perm_nil {α : Type} (l : List α) : l.Perm (l ++ []) := by rw [aV]
abbrev CM (α : Type) (a : Nat) : List α → α → Option (List α ⊕ Empty) := fun s x => (jw a s [x]).map Sum.inl
theorem yy {α : Type} {a : Nat} {l : List α} (h1 : l.length * a ≤ 140737488355328) (b : l.length ≤ maxLen) : ∀ (o s : List α), (s ++ o).length ≤ l.length → sA (xn (CM α a)) (.inl s) o = some (.inl (s ++ o))
 | [], s, _ => by rw [aV]; rfl
 | x :: o, s, h => by
  have c : jw a s [x] = some (s ++ [x]) := FQ h1 b (by simp at h ⊢; omega)
  have d : xn (CM α a) (.inl s) x = some (true, .inl (s ++ [x])) := by simp [xn, CM, c]
  simp only [sA, d]
  rw [yy h1 b o (s ++ [x]) (by simpa [ar] using h), ar]
  rfl
theorem DZ {P : Program} {W : World} {f : FuncId} {fn : Func} {b : Nat} {es : Array MapEntry} {clock : Nat} (d : P.funcs[f]? = some fn) (a : (fn.name == "runtime.NumGoroutine") = false) (c : fn.body.isNone = true) (i : Extern.findNext fn = none) (he : Extern.find fn = some Extern.MapsClone.clone) (t : TypeId) (h : W.heap[b]? = some (.map es clock)) :
  (callFunc f #[.iface t (.map (some b))]).run P W = .ok (.value (.iface t (.map (some W.heap.size)))) (W.alloc (.map es clock)) := by
 rw [er d a c i he]
 have e : Extern.MapsClone.clone #[.iface t (.map (some b))] = (getObj b >>= fun o => match o with
   | .map entries clock => (newObj (.map entries clock) >>= fun n => pure (.iface t (.map (some n))))
   | _ => stuck "maps.clone: a map expected") := rfl
 rw [e]
 have g : (getObj b : Sem Obj).run P W = .ok (.map es clock) W := by simp [getObj, Sem.run, h]
 simp [g, run_newObj_alloc]
section
variable {P : Program} {E : Nat → Value} {W : World} {d : Option Nat} {ty : TypeId} {pos : String} {af : Array Edge} {g : Option (Nat × Bool)} {dd : Bool} {F : Nat → Prop} {w : World} {μ : iq} {L : List (Nat × Obj)}
theorem FX {K : Value → World → Prop} {fv x : Operand} {ats : Array TypeId} {f : FuncId} {t : TypeId} {b : Nat} {es : Array MapEntry} {clock : Nat} (a : ST dd F w W μ L) (c : gN E fv = .func (.func f) #[] #[]) (j : gN E x = .iface t (.map (some b))) (i : (callFunc f #[.iface t (.map (some b))]).run P W = .ok (.value (.iface t (.map (some W.heap.size)))) (W.alloc (.map es clock))) (h : ∀ W' m, ST dd F w W' μ ((m, .map es clock) :: L) → K (.iface t (.map (some m))) W') : jJ P E ⟨d, .call ⟨.value fv, #[x], ats⟩, ty, pos, af, g⟩ W K := by
 refine .inl ⟨_, _, ?_, h _ _ (a.alloc _)⟩
 show (do let d ← resolve (gN E) ⟨.value fv, #[x], ats⟩ ty; invoke d.target d.args : Sem Next).run P W = _
 rw [← i]
 simp [resolve, c, j, Deferred.ofValue, invoke]
theorem B9 {a t k e : TypeId} {x : Operand} {v : Value} (b : P.underlying t = some (.map k e)) (c : gN E x = .iface t v) : iT P E ⟨d, .typeAssert x a t false, ty, pos, af, g⟩ W v W := by
 show (do pure (.value (← Instr.typeAssert (gN E x) a t false)) : Sem Next).run P W = _
 rw [c]
 simp [Instr.typeAssert, al b]
end
def ze {κ γ : Type} (beq : κ → κ → Bool) (kenc : κ → Value) (vf : γ → Value) (a : Value) (l : List (κ × γ)) (k : κ) (x : γ) (st : Nat) (R : List (Nat × Obj)) : Prop :=
 ∃ m es clock i e, a = .map (some m) ∧ R = [(m, .map es clock)] ∧ nk kenc vf (ji beq l k x) es clock ∧ es[i]? = some e ∧ e.born = st ∧ (ji beq l k x).findIdx? (fun p => beq k p.1) = some i
section
variable {κ γ : Type} {vf : γ → Value} {beq : κ → κ → Bool} {kenc : κ → Value}
variable {dd : Bool} {P : Program} {W : World} {kt : TypeId} {E : Nat → Value} {d : Option Nat} {ty : TypeId} {pos : String} {af : Array Edge} {g : Option (Nat × Bool)} {F : Nat → Prop} {w : World} {μ : iq} {L : List (Nat × Obj)}
theorem Cg (hk : ∀ {x y : κ}, beq x y = true ↔ x = y) (l : List (κ × γ)) (k : κ) (x : γ) : ∃ i, (ji beq l k x).findIdx? (fun p => beq k p.1) = some i ∧ (ji beq l k x)[i]? = some (k, x) := by
 cases a : l.findIdx? (fun p => beq k p.1) with
 | none =>
  rw [nS a]
  refine ⟨l.length, ?_, by simp⟩
  rw [dw, a]
  simp [cD, hk]
 | some i =>
  obtain ⟨p, hp, _⟩ := ly a
  rw [kT a]
  have d := (aD.1 hp).1
  refine ⟨i, ?_, by simp [d]⟩
  rw [bH] at a ⊢
  obtain ⟨h1, g, b⟩ := a
  refine ⟨by simpa using h1, by simp [hk], fun j c => ?_⟩
  rw [et (by omega)]
  exact b j c
theorem ET (hk : ∀ {x y : κ}, beq x y = true ↔ x = y) (l : List (κ × γ)) (k : κ) (x : γ) : ij beq (ji beq l k x) k = some x := by
 obtain ⟨i, h1, a⟩ := Cg hk l k x
 exact rT h1 a
theorem ze.row {a : Value} {l : List (κ × γ)} {k : κ} {x : γ} {st : Nat} {R : List (Nat × Obj)} (h : ze beq kenc vf a l k x st R) : ir kenc vf a (ji beq l k x) R := by
 obtain ⟨m, es, clock, i, e, h1, b, c, _⟩ := h
 exact ⟨m, es, clock, h1, b, c⟩
theorem xK {Kk : Value → World → Prop} {Y R : List (Nat × Obj)} {t e : TypeId} {m x : Operand} {mv : Value} {x0 : γ} {l : List (κ × γ)} {k : κ} (hk : ∀ {x y : κ}, beq x y = true ↔ x = y) (K : ke P kt kenc beq) (ht : P.underlying t = some (.map kt e)) (hz : ∀ w, (zeroValue e).run P w = .ok (vf x0) w) (I : ST dd F w W μ (R ++ Y)) (h : ir kenc vf mv l R) (hm : gN E m = mv) (hx : gN E x = kenc k) (Q : ∀ W' st R', ST dd F w W' μ (R' ++ Y) → ze beq kenc vf mv l k (jh beq l k x0) st R' → Kk (.tuple #[vf (jh beq l k x0), .int .i64 (st : Nat)]) W') : jJ P E ⟨d, .mapEntry t m x, ty, pos, af, g⟩ W Kk := by
 obtain ⟨o, es, clock, rfl, rfl, r⟩ := h
 have s : ST dd F w W μ ([] ++ (o, .map es clock) :: Y) := I
 have T : W.heap[o]? = some (.map es clock) := (I.box o (.map es clock) (by simp)).1
 have h5 : (getObj o : Sem Obj).run P W = .ok (.map es clock) W := by simp [getObj, Sem.run, T]
 have A := K.find k _ _ r.keys W
 rw [r.get k] at A
 have u : ∀ W' v, (Instr.mapEntry t (.map (some o)) (kenc k)).run P W = .ok v W' → (execOp (gN E) ⟨d, .mapEntry t m x, ty, pos, af, g⟩).run P W = .ok (.value v) W' := by
  intro W' v hr
  show (do pure (.value (← Instr.mapEntry t (gN E m) (gN E x))) : Sem Next).run P W = _
  rw [hm, hx]
  simp [hr]
 obtain ⟨ix, a1, a6⟩ := Cg hk l k (jh beq l k x0)
 cases b : l.findIdx? (fun p => beq k p.1) with
 | none =>
  have Z : jh beq l k x0 = x0 := by rw [jh, uf b]; rfl
  rw [b] at A
  have a := r.put (beq := beq) k x0
  rw [b] at a
  rw [Z] at a1 a6 Q
  have n : ji beq l k x0 = l ++ [(k, x0)] := nS b x0
  refine .inl ⟨_, ChangeMaps.setBlock W o (.map (es.push { key := kenc k, val := vf x0, born := clock }) (clock + 1)), u _ (.tuple #[vf x0, .int .i64 (clock : Nat)]) ?_, Q _ clock [(o, .map (es.push { key := kenc k, val := vf x0, born := clock }) (clock + 1))] (s.setBlock _) ⟨o, _, _, es.size, { key := kenc k, val := vf x0, born := clock }, rfl, rfl, by rw [n]; exact a, by simp, rfl, ?_⟩⟩
  ·simp [Instr.mapEntry, al ht, h5, K.check, A, oL T, hz _, goInt]
  ·rw [n, dw, b]
   have O := r.length
   simp [cD, hk, O]
 | some i =>
  obtain ⟨p, hp, U⟩ := ly b
  have Z : jh beq l k x0 = p.2 := by rw [jh, rT b hp]; rfl
  rw [b] at A
  have a := r.put (beq := beq) k p.2
  rw [b] at a
  have n : ji beq l k p.2 = l.set i (k, p.2) := kT b p.2
  have O := r.length
  have a7 : i < l.length := (aD.1 hp).1
  obtain ⟨G, c⟩ : ∃ G, es[i]? = some G := ⟨es[i], dm (by omega)⟩
  have J := ay (fun q => q[i]?) r.sE
  simp only [cm, bz, c, hp, bK, dv, eP] at J
  simp only [aa, hp, bK] at A
  have L : ((es[i]?).map (·.key)).getD (kenc k) = kenc k := by
   rw [c]
   simp only [bK, eb, J.1]
   exact K.eq k p.1 U
  have M : es.modify i (fun e => { e with key := kenc k }) = es.modify i (fun e => { e with key := kenc k, val := vf p.2 }) := rW fun e he => by
   rw [c] at he; cases he
   rw [← J.2]
  rw [Z] at Q
  refine .inl ⟨_, ChangeMaps.setBlock W o (.map (es.modify i fun e => { e with key := kenc k, val := vf p.2 }) clock), u _ (.tuple #[vf p.2, .int .i64 (G.born : Nat)]) ?_, Q _ G.born [(o, .map (es.modify i fun e => { e with key := kenc k, val := vf p.2 }) clock)] (s.setBlock _) ⟨o, _, _, i, { G with key := kenc k, val := vf p.2 }, rfl, rfl, by rw [n]; exact a, ?_, rfl, ?_⟩⟩
  ·simp only [Instr.mapEntry, aT, al ht, h5, K.check, A, aK, L, Instr.keyThatStays, K.bits, bj, bF]
   rw [oL T, M]
   simp [c, goInt]
  ·rw [ck, an rfl, c]; rfl
  ·rw [n]
   rw [bH] at b ⊢
   obtain ⟨h1, r, h3⟩ := b
   refine ⟨by simpa using h1, by simp [hk], fun j J => ?_⟩
   rw [et (by omega)]
   exact h3 j J
theorem wo {L : Value → World → Prop} {Y R : List (Nat × Obj)} {t : TypeId} {m s y : Operand} {J : Value} {x z : γ} {l : List (κ × γ)} {k : κ} {st : Nat} (hk : ∀ {x y : κ}, beq x y = true ↔ x = y) (K : ke P kt kenc beq) (n : ST dd F w W μ (R ++ Y)) (h : ze beq kenc vf J l k x st R) (hm : gN E m = J) (Z : gN E s = .int .i64 (st : Nat)) (hy : gN E y = vf z) (U : ∀ W' R', ST dd F w W' μ (R' ++ Y) → ir kenc vf J (ji beq l k z) R' → L undef W') : jJ P E ⟨d, .entryStore t m s y, ty, pos, af, g⟩ W L := by
 obtain ⟨j, es, clock, i, Q, rfl, rfl, A, c, b, I⟩ := h
 have o : ST dd F w W μ ([] ++ (j, .map es clock) :: Y) := n
 have M : W.heap[j]? = some (.map es clock) := (n.box j (.map es clock) (by simp)).1
 have T : (getObj j : Sem Obj).run P W = .ok (.map es clock) W := by simp [getObj, Sem.run, M]
 obtain ⟨p, hp, G⟩ := ly I
 have O := ay (fun q => q[i]?) A.sE
 simp only [cm, bz, c, hp, bK, dv, eP] at O
 have a := A.put (beq := beq) k z
 rw [I] at a
 have v : es.modify i (fun e => { e with val := vf z }) = es.modify i (fun e => { e with key := kenc k, val := vf z }) := rW fun e he => by
  rw [c] at he; cases he
  have r : Q.key = kenc k := by rw [O.1]; exact K.eq k p.1 G
  rw [← r]
 have u := zP A.born c
 rw [b] at u
 refine .inr (.inl ⟨ChangeMaps.setBlock W j (.map (es.modify i fun e => { e with key := kenc k, val := vf z }) clock), ?_, U _ [(j, .map (es.modify i fun e => { e with key := kenc k, val := vf z }) clock)] (o.setBlock _) ⟨j, _, _, rfl, rfl, ?_⟩⟩)
 ·show (do Instr.entryStore t (gN E m) (gN E s) (gN E y); pure .skip : Sem Next).run P W = _
  rw [hm, Z, hy]
  simp only [Instr.entryStore, aT, T, aK, asInt, asIntOf, bF, u]
  rw [oL M, v]
  rfl
 ·rw [← wC (fun x => hk.2 rfl) l k x z, kT I]; exact a
theorem Bg {t e : TypeId} {m x : Operand} {a : Value} {l : List (κ × γ)} {k : κ} {x0 : γ} {st : Nat} {R : List (Nat × Obj)} (hk : ∀ {x y : κ}, beq x y = true ↔ x = y) (K : ke P kt kenc beq) (i : P.underlying t = some (.map kt e)) (n : ∀ w, (zeroValue e).run P w = .ok (vf x0) w) (hm : gN E m = a) (j : gN E x = kenc k) (h : ze beq kenc vf a l k (jh beq l k x0) st R) (c : ∀ b o, (b, o) ∈ R → W.heap[b]? = some o) : iT P E ⟨d, .lookup t m x false, ty, pos, af, g⟩ W (vf (jh beq l k x0)) W := by
 have := nR (d := d) (ty := ty) (pos := pos) (af := af) (g := g) K i n hm j (h.row.at c)
 rwa [show jh beq (ji beq l k (jh beq l k x0)) k x0 = jh beq l k x0 by rw [jh, ET hk]; rfl] at this
end
end Go.Proofs.YtbnbdigcbldfhaaGreat
namespace Go.Proofs.YtbnbdigcbldfhaaGreat
open Go.IntKind renaming wrap → wi0
open Go.Sort Go.Proofs Go.Shelf
theorem yb {g b : Nat} {o : Obj} : keys [(g, o)] b ↔ b = g := by
 constructor
 ·rintro ⟨o', h⟩
  simp at h
  exact h.1
 ·rintro rfl; exact ⟨o, by simp⟩
theorem uL (w : World) (g m : Nat) (f : Array Value → Array Value) (os : Array Obj) (b : Nat) (c : b < w.heap.size) :
  (Go.Sort.grow (mapBlock (Go.Sort.ahead w m) g f) os).heap[b]? = if g = b then w.heap[b]?.map (onCells f) else w.heap[b]? := by
 have a : b < (mapBlock (Go.Sort.ahead w m) g f).heap.size := by simp only [mapBlock, Go.Sort.ahead, Array.size_modify]; exact c
 rw [heap_grow_old _ _ a]
 simp only [mapBlock, Go.Sort.ahead, ck]
theorem xF {w : World} {g m : Nat} {f : Array Value → Array Value} {os : Array Obj} {cs : Array Value} {T : TypeId} {fr : Nat × Nat} (c : w.heap[g]? = some (.cells cs T fr)) :
  oE true [(g, .cells cs T fr)] [(g, .cells (f cs) T fr)] w (Go.Sort.grow (mapBlock (Go.Sort.ahead w m) g f) os) := by
 have a : g < w.heap.size := (bE.1 c).1
 refine ⟨⟨rfl, rfl, rfl, ?_, ?_, fun b d i => ?_⟩, fun b o h => ?_, by simp⟩
 ·refine oh.of ?_
  show w.drawn ≤ w.drawn + m
  omega
 ·show w.heap.size ≤ (w.heap.modify g (onCells f) ++ os).size
  simp
 ·rw [uL _ _ _ _ _ _ d, ak fun h => i (yb.2 h.symm)]
 ·simp only [aj, bR, dW, eP] at h
  obtain ⟨rfl, rfl⟩ := h
  refine ⟨?_, .inr (yb.2 rfl)⟩
  rw [uL _ _ _ _ _ _ a, an rfl, c]
  rfl
theorem CY {w W : World} (h : Ex true w W) : ∃ q os, W = Go.Sort.grow (w.drewN q) os := by
 refine ⟨W.drawn - w.drawn, W.heap.extract w.heap.size W.heap.size, ?_⟩
 have d : W.heap = w.heap ++ W.heap.extract w.heap.size W.heap.size := by
  apply Array.ext_getElem?
  intro i
  rw [eJ]
  split
  ·rename_i g; exact h.jg i g
  ·rename_i g
   rw [Array.getElem?_extract]
   have k := h.size
   split
   ·rw [show w.heap.size + (i - w.heap.size) = i by omega]
   ·exact Array.getElem?_eq_none (by omega)
 obtain ⟨h1, l, m, n, o⟩ := W
 have a := h.os; have b := h.tape; have c := h.output; have j := h.drawn rfl
 simp only at a b c j d
 unfold Go.Sort.grow World.drewN
 simp only [World.mk.injEq]
 exact ⟨d, b, by omega, a, c⟩
theorem CB {α : Type} [Inhabited α] {enc : α → List Value} {k : Nat} (hk : ∀ x, (enc x).length = k) (l : List α) (j : Nat) (a : j < l.length * k) :
  (l.map enc).flatten[j]? = some ((flatK enc k l.toArray)[j]!) := by
 have d : 0 < k := by
  cases k with
  | zero => simp at a
  | succ n => omega
 have h1 : j / k < l.length := (Nat.div_lt_iff_lt_mul d).2 a
 rw [get_flatK _ _ _ _ (by simpa using a)]
 have g : l.toArray[j / k]! = l[j / k] := by
  rw [gp l.toArray (j / k) (by simpa using h1)]; simp
 rw [g]
 have b : j % k < (enc l[j / k]).length := by rw [hk]; exact Nat.mod_lt _ d
 have c := sn hk l (j / k) l[j / k] (cd h1) (j % k) ((enc l[j / k])[j % k]) (cd b)
 rw [Nat.div_add_mod' j k] at c
 rw [c, gp (enc l[j / k]) (j % k) b]
theorem AD {α : Type} [Inhabited α] {enc : α → List Value} {k : Nat} (hk : ∀ x, (enc x).length = k) {w : World} {g : Nat} {cs : Array Value} {T : TypeId} (b : w.heap[g]? = some (.cells cs T (0, 0))) (l : List α)
  (d : cs.toList.take (l.length * k) = (l.map enc).flatten) : HoldsK enc k w g 0 l.toArray := by
 intro j c
 have a : j < l.length * k := by simpa using c
 have h1 := CB hk l j a
 rw [← d, cT, an a] at h1
 refine ⟨?_, ?_⟩
 ·simp only [World.cell?, b, cJ]
  simpa using h1
 ·simp [World.frozen?, b]
theorem Ca {α : Type} [Inhabited α] {enc : α → List Value} {k : Nat} (hk : ∀ x, (enc x).length = k) {cs : Array Value} (l : List α) (b : l.length * k ≤ cs.size) :
  (putCells id 0 (flatK enc k l.toArray) cs).toList.take (l.length * k) = (l.map enc).flatten := by
 apply cI
 intro j
 rw [cT]
 split
 ·rename_i a
  rw [CB hk l j a]
  simp only [putCells, bz, Array.getElem?_mapIdx, size_flatK, bU]
  rw [dm (by omega)]
  simp [a]
 ·rename_i a
  rw [cN (by rw [lo hk]; omega)]
theorem AG (enc : Value → Value) (o : Nat) (d c : Array Value) : (putCells enc o d c).size = c.size := by simp [putCells]
section
variable {α : Type} {P : Program} {ρ : Ren}
theorem GP {l : List α} {cf : α × α → Option Int} (h : vi cf l) : SWO (ltOf fun (x y : {x // x ∈ l}) => (cf (x.1, y.1)).getD 0) ∧
  (∀ x y : {x // x ∈ l}, ltOf (fun (x y : {x // x ∈ l}) => (cf (x.1, y.1)).getD 0) x y = nj cf x.1 y.1) := by
 have e : ∀ x y : {x // x ∈ l}, ltOf (fun (x y : {x // x ∈ l}) => (cf (x.1, y.1)).getD 0) x y = nj cf x.1 y.1 := fun x y => by
  obtain ⟨c, g⟩ := h.is x.1 x.2 y.1 y.2
  simp [ltOf, nj, g]
 refine ⟨⟨fun x => ?_, fun x y z => ?_, fun x y z => ?_⟩, e⟩
 ·rw [e]; exact h.irrefl _ x.2
 ·rw [e, e, e]; exact h.trans _ x.2 _ y.2 _ z.2
 ·rw [e, e, e]
  intro h1 b
  cases a : nj cf x.1 z.1 with
  | false => rfl
  | true =>
   cases d : nj cf y.1 x.1 with
   | true =>
    have := h.trans _ y.2 _ x.2 _ z.2 d a
    rw [b] at this; cases this
   | false =>
    have := h.total _ x.2 _ y.2 h1 d
    rw [this, b] at a; cases a
theorem xN (L : SlLaysF0.n6 P ρ) (k : Nat) (aE : ∀ w, (isAgg (ρ.t 24)).run P w = .ok true w) (zE : ∀ w, (Go.sizeOf (ρ.t 24)).run P w = .ok k w) {e : TypeId} (enc : α → List Value) (hk : ∀ x, (enc x).length = k) (h1 : ∀ x, ∀ u ∈ enc x, u.oneCell' = true) {v fv : Value} {l r : List α} {R : List (Nat × Obj)} {cf : α × α → Option Int} {w : World} {μ0 : iq} (hH : wM (R ++ []) w) (E : iH μ0 (pS w (R ++ []))) (Y : hZ e enc k v l R) (hc : yI P fv μ0 (fun (x : α × α) => [(.agg (enc x.1).toArray), (.agg (enc x.2).toArray)]) (fun (r : Int) => (.int .i64 r)) cf) (hm : rV cf l = some r) :
  iF true P (ρ.f 6) [v, fv] w (R ++ []) (fun u L1 _ => ∃ (S : List (Nat × Obj)), u = (.tuple #[]) ∧ L1 = (S ++ []) ∧ hZ e enc k v r S) := by
 obtain ⟨ok, rfl⟩ := y9 hm
 rw [aV] at hH E ⊢
 rcases cC l.length with h0 | i
 ·have hl : l = [] := bW h0
  subst hl
  have Z : ms cf ([] : List α) = [] := by simp [ms]
  rw [Z]
  obtain ⟨p, c, rfl⟩ : ∃ p c, v = .slice p 0 c := by
   rcases Y with ⟨rfl, _, _⟩ | ⟨g, cap, j, rfl, _⟩
   ·exact ⟨_, _, rfl⟩
   ·exact ⟨_, _, rfl⟩
  refine bJ (AnyF.slices_SortFunc_none L p c fv w) fun x w' ⟨hx, hw⟩ => ?_
  subst hx hw
  refine ⟨_, R, rfl, ⟨⟨rfl, rfl, rfl, oh.of (aJ _), aJ _, fun _ _ _ => rfl⟩, fun b o h => ⟨hH b o h, .inr ⟨o, h⟩⟩, ?_⟩, R, rfl, (aV R).symm, Y⟩
  rcases Y with ⟨_, _, rfl⟩ | ⟨g, cap, j, _, rfl, _⟩ <;> simp
 ·rcases Y with ⟨_, rfl, _⟩ | ⟨g, cap, j, rfl, rfl, a8, a7, M, ao⟩
  ·simp at i
  have hg : w.heap[g]? = some (.cells j e (0, 0)) := hH g _ (by simp)
  have ab : g < w.heap.size := (bE.1 hg).1
  haveI : Inhabited {x // x ∈ l} := ⟨⟨l[0], List.getElem_mem i⟩⟩
  obtain ⟨gg, caps, rfl, O, q⟩ := hc
  obtain ⟨hO, Q⟩ := GP ok
  have G : l.attach.toArray.size = l.length := by simp
  have ad : l.attach.map (fun x => enc x.1) = l.map enc := by
   rw [show (fun x : {x // x ∈ l} => enc x.1) = enc ∘ Subtype.val from rfl, ← de, List.attach_map_subtype_val]
  have a1 : HoldsK (fun x : {x // x ∈ l} => enc x.1) k w g 0 l.attach.toArray := AD (fun x => hk x.1) hg l.attach (by rw [ad, List.length_attach, ao])
  have K : CmpLays P gg caps (fun x : {x // x ∈ l} => enc x.1) k (fun x y => (cf (x.1, y.1)).getD 0) g 0 l.attach.toArray.size w := by
   intro m os dk b0 x y
   obtain ⟨c, J⟩ := ok.is x.1 x.2 y.1 y.2
   have W : iH μ0 (hp (sortWorldK (fun x : {x // x ∈ l} => enc x.1) k w g 0 m dk os)) := fun b o hb => by
    have A := E b o hb
    unfold pS at A
    split at A
    ·cases A
    ·rename_i hn
     have a6 : b < w.heap.size := (bE.1 A).1
     show (Go.Sort.grow (mapBlock (Go.Sort.ahead w m) g _) os).heap[b]? = _
     rw [uL _ _ _ _ _ _ a6, ak fun h => hn (yb.2 h.symm)]
     exact A
   have h3 := q (sortWorldK (fun x : {x // x ∈ l} => enc x.1) k w g 0 m dk os) (x.1, y.1) c W J
   have ea : ([Value.agg (enc x.1).toArray, Value.agg (enc y.1).toArray] ++ caps.toList).toArray = #[Value.agg (enc x.1).toArray, Value.agg (enc y.1).toArray] ++ caps := by
    apply Array.ext'; simp
   rw [← ea]
   exact bJ h3 fun u W' hu => ⟨by rw [hu.1]; show _ = Ending.returned (.int .i64 ((cf (x.1, y.1)).getD 0)); rw [J]; rfl, CY hu.2⟩
  have hT : ∀ x y : {x // x ∈ l}, ltOf (fun (x y : {x // x ∈ l}) => (cf (x.1, y.1)).getD 0) x y = false → ltOf (fun (x y : {x // x ∈ l}) => (cf (x.1, y.1)).getD 0) y x = false → x = y := fun x y a b => by
   rw [Q] at a b
   exact Subtype.ext (ok.total _ x.2 _ y.2 a b)
  have d := AnyQ.slices_SortFunc_total L k aE zE (fun x : {x // x ∈ l} => enc x.1) (fun x => hk x.1) (fun x => h1 x.1) (fun x y => (cf (x.1, y.1)).getD 0) hO gg caps g 0 cap l.attach.toArray w O K a1 ab (by rw [G]; exact ok.short) hT
  rw [G] at d
  refine bJ d fun u w' ⟨hu, n, os, hw⟩ => ?_
  subst hu
  generalize Z : l.attach.toArray.toList.mergeSort (fun x y => !ltOf (fun (x y : {x // x ∈ l}) => (cf (x.1, y.1)).getD 0) y x) = s at hw
  have af : s.map Subtype.val = ms cf l := by
   rw [← Z, fk (s := fun x y => !nj cf y x) (fun a _ b _ => by rw [Q])]
   simp [ms]
  have U : s.length = l.length := by rw [← Z, eK]; simp
  have T : (ms cf l).length = l.length := by simp [ms, eK]
  have I := xF (w := w) (m := n) (f := putCells id 0 (flatK (fun x : {x // x ∈ l} => enc x.1) k s.toArray)) (os := os) hg
  have av : w' = Go.Sort.grow (mapBlock (Go.Sort.ahead w n) g (putCells id 0 (flatK (fun x : {x // x ∈ l} => enc x.1) k s.toArray))) os := hw
  rw [← av] at I
  refine ⟨_, _, rfl, I, _, rfl, (aV _).symm, .inr ⟨g, cap, _, by rw [T], rfl, by omega, a7, by rw [AG, M], ?_⟩⟩
  rw [T, ← U, Ca (fun x => hk x.1) s (by rw [U, M]; exact aR k a8), ← af, de]
  rfl
end
theorem wH (b : ByteArray) : b.toList = b.data.toList := by rw [dz]
theorem AR (l : List ByteArray) : (l.map jC).flatten = l.map Value.string := by
 induction l with
 | nil => rfl
 | cons x l ih => simp only [aC, bL, ih]; rfl
theorem A4 (l : List ByteArray) : (jj l).map (fun b => b.data.toList) = (l.map (fun b => b.data.toList)).mergeSort (fun x y => decide (x ≤ y)) := by
 unfold jj
 refine fk fun a _ b _ => ?_
 unfold li
 rw [bytesLess_eq, wH, wH]
 by_cases h : a.data.toList ≤ b.data.toList
 ·have c : ¬ b.data.toList < a.data.toList := List.not_lt.2 h
  simp [h, c]
 ·have c : b.data.toList < a.data.toList := by
   cases Decidable.em (b.data.toList < a.data.toList) with
   | inl d => exact d
   | inr d => exact absurd (List.not_lt.1 d) h
  simp [h, c]
section
variable {P : Program} {ρ : Ren}
theorem B1 (L : SlLaysM.n6 P ρ) {e : TypeId} {v : Value} {l r : List ByteArray} {R : List (Nat × Obj)} {w : World} (hH : wM (R ++ []) w) (E : hZ e jC 1 v l R) (hm : xu l = some r) :
  iF true P (ρ.f 6) [v] w (R ++ []) (fun u L1 _ => ∃ (S : List (Nat × Obj)), u = (.tuple #[]) ∧ L1 = (S ++ []) ∧ hZ e jC 1 v r S) := by
 unfold xu at hm
 split at hm
 ·rename_i k
  cases hm
  rw [aV] at hH ⊢
  rcases cC l.length with T | s
  ·have Y : l = [] := bW T
   subst Y
   have hs : jj [] = [] := by simp [jj]
   rw [hs]
   obtain ⟨p, c, rfl⟩ : ∃ p c, v = .slice p 0 c := by
    rcases E with ⟨rfl, _, _⟩ | ⟨g, cap, d, rfl, _⟩
    ·exact ⟨_, _, rfl⟩
    ·exact ⟨_, _, rfl⟩
   refine bJ (AnyM.slices_Sort_string_none L p c w) fun x Q ⟨hx, hw⟩ => ?_
   subst hx hw
   refine ⟨_, R, rfl, ⟨⟨rfl, rfl, rfl, oh.of (aJ _), aJ _, fun _ _ _ => rfl⟩, fun b o h => ⟨hH b o h, .inr ⟨o, h⟩⟩, ?_⟩, R, rfl, (aV R).symm, E⟩
   rcases E with ⟨_, _, rfl⟩ | ⟨g, cap, d, _, rfl, _⟩ <;> simp
  ·rcases E with ⟨_, rfl, _⟩ | ⟨g, cap, d, rfl, rfl, Z, I, J, M⟩
   ·simp at s
   have y : w.heap[g]? = some (.cells d e (0, 0)) := hH g _ (by simp)
   have K : g < w.heap.size := (bE.1 y).1
   have G : Holds encStr w g 0 (l.map (fun b => b.data.toList)).toArray := by
    intro j A
    have i : j < l.length := by simpa using A
    have h1 : (d.toList.take (l.length * 1))[j]? = ((l.map jC).flatten)[j]? := by rw [M]
    rw [AR, cT, an (by omega), cm, cd i] at h1
    refine ⟨?_, by simp [World.frozen?, y]⟩
    simp only [World.cell?, y, cJ]
    rw [gp _ j A]
    simpa using h1
   have a := AnyM.slices_Sort_string L g 0 cap (l.map (fun b => b.data.toList)) w G K (by simpa using k)
   rw [bQ, ← A4] at a
   refine bJ a fun u Q ⟨hu, n, os, hw⟩ => ?_
   subst hu
   have t : (jj l).length = l.length := by simp [jj, eK]
   have q := xF (w := w) (m := n) (f := putCells encStr 0 ((jj l).map (fun b => b.data.toList)).toArray) (os := os) y
   have O : Q = Go.Sort.grow (mapBlock (Go.Sort.ahead w n) g (putCells encStr 0 ((jj l).map (fun b => b.data.toList)).toArray)) os := hw
   rw [← O] at q
   refine ⟨_, _, rfl, q, _, rfl, (aV _).symm, .inr ⟨g, cap, _, by rw [t], rfl, by omega, I, by simpa [putCells] using J, ?_⟩⟩
   rw [t, AR]
   apply cI
   intro j
   rw [cT]
   split
   ·rename_i A
    have i : j < (jj l).length := by omega
    rw [cm, cd i]
    simp only [putCells, bz, Array.getElem?_mapIdx]
    rw [dm (by omega)]
    have U : j < ((jj l).map (fun b => b.data.toList)).toArray.size := by simpa using i
    have W : 0 ≤ j ∧ j < 0 + ((jj l).map (fun b => b.data.toList)).toArray.size := ⟨by omega, by omega⟩
    simp only [bK, an W, Nat.sub_zero]
    rw [gp _ j U]
    simp
   ·rename_i A
    rw [cN (by simp; omega)]
 ·cases hm
end
end Go.Proofs.YtbnbdigcbldfhaaGreat
namespace Go.Proofs.YtbnbdigcbldfhaaGreat
open Go.IntKind renaming wrap → wi0
open Go.WideElems Go.WideShapes Go.Sort Go.Proofs Go.Shelf
theorem B6 {β : Type} {vf : β → Value} {P : Program} {kt : TypeId} (y : P.underlying kt = some .string) {l : List (ByteArray × β)} {es : Array MapEntry} {clock : Nat} (h : nk Value.string vf l es clock) (u : (l.map (·.1)).Nodup) (w : ∀ p ∈ l, p.1.size ≤ maxLen) (t : l.length ≤ maxLen) {W : World} {b : Nat} (r : W.heap[b]? = some (.map es clock)) : ∃ D : DataW Unit, W.ownsMap P kt (fun _ => some (.lit (.bool true), [])) b es.size D ∧ (strKeys D).Perm (l.map (fun p => p.1.data.toList)) ∧ Maps.size D = l.length := by
 have c := h.keys
 have m : ∀ x ∈ es.toList, ∃ s : ByteArray, x.key = .string s ∧ s.size ≤ maxLen := fun x i => by
  have h1 : x.key ∈ es.toList.map (·.key) := aF.2 ⟨x, i, rfl⟩
  rw [c] at h1
  obtain ⟨s, g, j⟩ := aF.1 h1
  obtain ⟨p, o, q⟩ := aF.1 g
  exact ⟨s, j.symm, by rw [← q]; exact w p o⟩
 have d : ∀ x ∈ es.toList, ∃ s : ByteArray, x.key = .string s ∧ Go.WideElems.rd (H := Unit) P kt (fun _ => some (.lit (.bool true), [])) x = some (.string s.data.toList, .lit (.bool true)) := fun x i => by
  obtain ⟨s, h1, g⟩ := m x i
  refine ⟨s, h1, ?_⟩
  simp [Go.WideElems.rd, keyOf, y, mapKey, h1, g]
 refine ⟨_, ⟨es, clock, r, ⟨by rw [h.length]; exact t, ⟨h.lt, ?_, ?_⟩, fun x i => ?_⟩, aJ _, rfl⟩, ?_, ?_⟩
 ·have := h.born
  rw [List.Nodup, ct]
  exact this.imp (fun {a b} h => by omega)
 ·rw [c]
  rw [List.Nodup, ct]
  exact u.imp (fun {a b} k e => k (by injection e))
 ·obtain ⟨s, _, g⟩ := d x i
  exact ⟨_, g⟩
 ·have h1 := (sorted_perm (es.toList.map (Go.WideElems.rg (H := Unit) P kt (fun _ => some (.lit (.bool true), []))))).map (fun p => strOf p.1)
  refine List.Perm.trans h1 ?_
  have e : (es.toList.map (Go.WideElems.rg (H := Unit) P kt (fun _ => some (.lit (.bool true), [])))).map (fun p => strOf p.1) = l.map (fun p => p.1.data.toList) := by
   have n : (es.toList.map (Go.WideElems.rg (H := Unit) P kt (fun _ => some (.lit (.bool true), [])))).map (fun p => strOf p.1) = (es.toList.map (·.key)).map (fun v => match v with | .string s => s.data.toList | _ => []) := by
    rw [de, de]
    refine eZ fun x i => ?_
    obtain ⟨s, g, j⟩ := d x i
    simp [Go.WideElems.rg, j, g, strOf]
   rw [n, c, de, de]
   rfl
  rw [e]
 ·have h1 := (sorted_perm (es.toList.map (Go.WideElems.rg (H := Unit) P kt (fun _ => some (.lit (.bool true), []))))).length_eq
  show (List.foldr DataW.insert [] _).length = _
  rw [h1, bQ, ← h.length]
  simp
theorem As {l : List ByteArray} {g : List (List UInt8)} (h : g.Perm (l.map fun b => b.data.toList)) : g.mergeSort (fun x y => decide (x ≤ y)) = (jj l).map (fun b => b.data.toList) := by
 rw [A4]
 have le : ∀ a b c : List UInt8, decide (a ≤ b) = true → decide (b ≤ c) = true → decide (a ≤ c) = true := fun a b c h1 d => by
  simp only [cZ] at *
  exact List.le_trans h1 d
 have tot : ∀ a b : List UInt8, (decide (a ≤ b) || decide (b ≤ a)) = true := fun a b => by
  simp only [dq, cZ]
  exact List.le_total a b
 refine List.Perm.eq_of_pairwise (le := fun a b => decide (a ≤ b) = true) (fun a b _ _ h1 d => List.le_antisymm (by simpa using h1) (by simpa using d)) (eC le tot _) (eC le tot _) ?_
 exact (dB _ _).trans (h.trans (dB _ _).symm)
section
variable {P : Program} {ρk ρt ρm : Ren}
theorem BV (LK : SlLaysZ.n7 P ρk) (LT : SlLaysZ.n6 P ρt) (LM : SlLaysM.n6 P ρm) (h9 : ρt.f 9 = ρm.f 6) (hK : P.underlying (ρk.t 26) = some .string) (eg : ∀ args w, (callFunc (ρk.f 10) args).run P w = .ok (.enter (ρk.f 10) args) w) (es : ∀ args w, (callFunc (ρt.f 9) args).run P w = .ok (.enter (ρt.f 9) args) w) {β : Type} {vf : β → Value} {l : List (ByteArray × β)} {b : Nat} {mv : Value} {t : TypeId} {W : World} {r : List ByteArray} (u : W.heap[b]? = some (.cells #[mv] t (0, 0))) (hm : lU Value.string vf (hp W) mv l) (hk : yK l = some r) :
  iY false P (ρt.f 6) [.func (.func (ρk.f 10)) #[] #[.pointer (some ⟨b, 0, none⟩)]] W (ρt.t 26) jC 1 r := by
 unfold yK at hk
 split at hk
 case isFalse => cases hk
 rename_i hc
 obtain ⟨T, U, Y⟩ := hc
 cases hk
 have i : b < W.heap.size := (bE.1 u).1
 have c : W.cell? ⟨b, 0, none⟩ = some mv := by simp [World.cell?, u]
 have q : AnyZ.SortsIn P ρt Fence.wide 4 :=
  ⟨fun M off cap d W hH hblk s => eD.2 (by rw [h9]; exact AnyM.slices_Sort_string LM M off cap d W hH hblk s), fun p cap W => eD.2 (by rw [h9]; exact AnyM.slices_Sort_string_none LM p cap W)⟩
 have K : SeqGives Fence.wide 2 P (ρk.f 10) #[.pointer (some ⟨b, 0, none⟩)] encStr (fun d => d.Perm ((l.map (·.1)).map fun b => b.data.toList)) l.length W := by
  rcases hm with ⟨rfl, rfl⟩ | ⟨m, es, clock, rfl, a6, E⟩
  ·have := AnyZ.keys_gives_nil (ρ := ρk) { LK with } Fence.wide 2 trivial rfl b W i c
   intro l' J W' Q O R L
   refine CallsIn.mono (this l' J W' Q O R L) ?_
   rintro e w' ⟨hv, d, rfl, hj⟩
   exact ⟨hv, [], cW _, hj⟩
  ·obtain ⟨D, G, n, s⟩ := B6 hK E T U (by unfold maxLen; omega) a6
   have := AnyZ.keys_gives (ρ := ρk) { LK with } Fence.wide 2 trivial rfl (by omega) b m es.size D W i c G
   intro l' J W' Q O R L
   refine CallsIn.mono (this l' J W' Q O (by rw [s]; exact R) L) ?_
   rintro e w' ⟨hv, d, hp, hj⟩
   refine ⟨hv, d, ?_, hj⟩
   rw [de]
   exact hp.trans n
 have cS := AnyZ.sorted_in LT Fence.wide 5 trivial trivial trivial trivial rfl (by omega) q es (ρk.f 10) #[.pointer (some ⟨b, 0, none⟩)] trivial eg _ l.length (by unfold maxLen; omega) Y W K
 refine bJ (eD.1 cS) ?_
 rintro e w' ⟨v, d, rfl, hS, I, a8, a⟩
 have hs := As hS
 have hlen : d.length = (jj (l.map (·.1))).length := by
  have := ay List.length hs
  simpa using this
 have k : (d.mergeSort (fun x y => decide (x ≤ y))).map encStr = ((jj (l.map (·.1))).map jC).flatten := by
  rw [hs, AR, de]
  refine eZ (fun x _ => ?_)
  simp only [Function.comp, encStr]
 rcases I.2 with ⟨rfl, L⟩ | ⟨g, cap, A, rfl, j, hg, ab, Z, a1, a7⟩
 ·have : jj (l.map (·.1)) = [] := bW (by omega)
  rw [this]
  exact ⟨_, [], rfl, oE.AK ⟨a.os, a.tape, a.output, fun h => (by cases h), a.size, fun b u => a.block b u⟩ (fun _ _ h => by cases h) (by simp), hZ.nil _ _ _⟩
 ·refine ⟨_, [(g, .cells A (ρt.t 26) (0, 0))], rfl, oE.AK ⟨a.os, a.tape, a.output, fun h => (by cases h), a.size, fun b u => a.block b u⟩ (fun b o h => by simp at h; obtain ⟨rfl, rfl⟩ := h; exact ⟨hg, j⟩) (by simp), .inr ⟨g, cap, A, by rw [hlen], rfl, by omega, Z, a1, ?_⟩⟩
  rw [← hlen, a7, k]
end
end Go.Proofs.YtbnbdigcbldfhaaGreat
namespace Go.Proofs.YtbnbdigcbldfhaaGreat
open Go.IntKind renaming wrap → wi0
def dF := @Tryz.underlying9
def dK := @Tryz.zeroValue9
def ec := @Tryz.underlying0
def ew := @Tryz.zeroValue0
def eH := @Tryz.sizeOf9
def eO := @Tryz.underlying4
def eW := @Tryz.isAgg9
def eY := @Tryz.zeroValue4
def fe := @Tryz.sizeOf0
def fl := @Tryz.underlying215
def fp := @Tryz.underlying261
def fq := @Tryz.underlying262
def ft := @Tryz.underlying268
def fu := @Tryz.underlying270
def fw := @Tryz.underlying291
def fx := @Tryz.underlying295
def fy := @Tryz.underlying315
def fz := @Tryz.underlying142
def fC := @Tryz.underlying112
def fM := @Tryz.isAgg0
def fN := @Tryz.zeroValue215
def fO := @Tryz.zeroValue261
def fP := @Tryz.zeroValue262
def fQ := @Tryz.underlying39
def fR := @Tryz.zeroValue268
def fS := @Tryz.zeroValue270
def fT := @Tryz.zeroValue291
def fU := @Tryz.zeroValue295
def fV := @Tryz.zeroValue315
def fW := @Tryz.zeroValue142
def fX := @Tryz.zeroValue112
def gj := @Tryz.underlying3
def gk := @Tryz.underlying5
def gl := @Tryz.zeroValue39
def gq := @Tryz.sizeOf4
def gA := @Tryz.zeroValue3
def gB := @Tryz.zeroValue5
def gD := @Tryz.isAgg4
def DR : Go.Shelf.Ren := ⟨fun | 6 => 116 | 15 => 179 | 14 => 178 | 28 => 225 | 29 => 226 | 20 => 217 | 21 => 218 | 22 => 219 | 23 => 220 | 24 => 221 | 25 => 222 | 26 => 223 | 27 => 224 | 46 => 255 | 47 => 256 | 48 => 257 | 49 => 258 | 50 => 259 | 57 => 290 | n => n, fun | 22 => 22 | 24 => 108 | 25 => 133 | 3 => 3 | 39 => 215 | 0 => 0 | 53 => 268 | 55 => 270 | 4 => 4 | 46 => 262 | 45 => 261 | 50 => 39 | 5 => 5 | 9 => 9 | 66 => 291 | 70 => 295 | 76 => 315 | 77 => 142 | n => n, fun | n => n⟩
theorem Hj : Go.Proofs.SlLaysF0.n6 Tryz.prog DR := {
 mixed := by kernel_rfl,
 f6 := ⟨Tryz.f116.name, by decide, Tryz.func116.trans (ay some (by kernel_rfl))⟩,
 f14 := ⟨Tryz.f178.name, by decide, Tryz.func178.trans (ay some (by kernel_rfl))⟩,
 f15 := Tryz.func179.trans (ay some (by kernel_rfl)),
 f20 := ⟨Tryz.f217.name, by decide, Tryz.func217.trans (ay some (by kernel_rfl))⟩,
 f21 := ⟨Tryz.f218.name, by decide, Tryz.func218.trans (ay some (by kernel_rfl))⟩,
 f22 := ⟨Tryz.f219.name, by decide, Tryz.func219.trans (ay some (by kernel_rfl))⟩,
 f23 := ⟨Tryz.f220.name, by decide, Tryz.func220.trans (ay some (by kernel_rfl))⟩,
 f24 := ⟨Tryz.f221.name, by decide, Tryz.func221.trans (ay some (by kernel_rfl))⟩,
 f25 := ⟨Tryz.f222.name, by decide, Tryz.func222.trans (ay some (by kernel_rfl))⟩,
 f26 := ⟨Tryz.f223.name, by decide, Tryz.func223.trans (ay some (by kernel_rfl))⟩,
 f27 := ⟨Tryz.f224.name, by decide, Tryz.func224.trans (ay some (by kernel_rfl))⟩,
 f28 := Tryz.func225.trans (ay some (by kernel_rfl)),
 f29 := Tryz.func226.trans (ay some (by kernel_rfl)),
 f46 := ⟨Tryz.f255.name, by decide, Tryz.func255.trans (ay some (by kernel_rfl))⟩,
 f47 := Tryz.func256.trans (ay some (by kernel_rfl)),
 f48 := Tryz.func257.trans (ay some (by kernel_rfl)),
 f49 := ⟨Tryz.f258.name, by decide, Tryz.func258.trans (ay some (by kernel_rfl))⟩,
 f50 := ⟨Tryz.f259.name, by decide, Tryz.func259.trans (ay some (by kernel_rfl))⟩,
 f57 := ⟨Tryz.f290.name, by decide, Tryz.func290.trans (ay some (by kernel_rfl))⟩,
 t0 := ec,
 a0 := fM,
 z0 := fe,
 v0 := ew,
 t3 := gj,
 a3 := Tryz.isAgg3,
 z3 := Tryz.sizeOf3,
 v3 := gA,
 t4 := eO,
 a4 := gD,
 z4 := gq,
 v4 := eY,
 t5 := gk,
 a5 := Tryz.isAgg5,
 z5 := Tryz.sizeOf5,
 v5 := gB,
 t9 := dF,
 a9 := eW,
 z9 := eH,
 v9 := dK,
 t22 := Tryz.underlying22,
 a22 := Tryz.isAgg22,
 z22 := Tryz.sizeOf22,
 v22 := Tryz.zeroValue22,
 t25 := Tryz.underlying133,
 a25 := Tryz.isAgg133,
 z25 := Tryz.sizeOf133,
 v25 := Tryz.zeroValue133,
 t39 := fl,
 a39 := Tryz.isAgg215,
 z39 := Tryz.sizeOf215,
 v39 := fN,
 t45 := fp,
 a45 := Tryz.isAgg261,
 z45 := Tryz.sizeOf261,
 v45 := fO,
 t46 := fq,
 a46 := Tryz.isAgg262,
 z46 := Tryz.sizeOf262,
 v46 := fP,
 t50 := fQ,
 a50 := Tryz.isAgg39,
 z50 := Tryz.sizeOf39,
 v50 := gl,
 t53 := ft,
 a53 := Tryz.isAgg268,
 z53 := Tryz.sizeOf268,
 v53 := fR,
 t55 := fu,
 a55 := Tryz.isAgg270,
 z55 := Tryz.sizeOf270,
 v55 := fS,
 t66 := fw,
 a66 := Tryz.isAgg291,
 z66 := Tryz.sizeOf291,
 v66 := fT,
 t70 := fx,
 a70 := Tryz.isAgg295,
 z70 := Tryz.sizeOf295,
 v70 := fU,
 t76 := fy,
 a76 := Tryz.isAgg315,
 z76 := Tryz.sizeOf315,
 v76 := fV,
 t77 := fz,
 a77 := Tryz.isAgg142,
 z77 := Tryz.sizeOf142,
 v77 := fW}
def D7 : Go.Shelf.Ren := ⟨fun | 6 => 122 | 15 => 179 | 14 => 185 | 28 => 225 | 29 => 226 | 20 => 230 | 21 => 231 | 22 => 232 | 23 => 233 | 24 => 234 | 25 => 235 | 26 => 236 | 27 => 237 | 46 => 269 | 47 => 256 | 48 => 257 | 49 => 270 | 50 => 271 | 57 => 295 | n => n, fun | 22 => 25 | 24 => 30 | 25 => 119 | 3 => 3 | 39 => 215 | 0 => 0 | 53 => 268 | 55 => 270 | 4 => 4 | 46 => 262 | 45 => 261 | 50 => 39 | 5 => 5 | 9 => 9 | 66 => 291 | 70 => 295 | 76 => 315 | 77 => 142 | n => n, fun | n => n⟩
theorem Hf : Go.Proofs.SlLaysF0.n6 Tryz.prog D7 := {
 mixed := by kernel_rfl,
 f6 := ⟨Tryz.f122.name, by decide, Tryz.func122.trans (ay some (by kernel_rfl))⟩,
 f14 := ⟨Tryz.f185.name, by decide, Tryz.func185.trans (ay some (by kernel_rfl))⟩,
 f15 := Tryz.func179.trans (ay some (by kernel_rfl)),
 f20 := ⟨Tryz.f230.name, by decide, Tryz.func230.trans (ay some (by kernel_rfl))⟩,
 f21 := ⟨Tryz.f231.name, by decide, Tryz.func231.trans (ay some (by kernel_rfl))⟩,
 f22 := ⟨Tryz.f232.name, by decide, Tryz.func232.trans (ay some (by kernel_rfl))⟩,
 f23 := ⟨Tryz.f233.name, by decide, Tryz.func233.trans (ay some (by kernel_rfl))⟩,
 f24 := ⟨Tryz.f234.name, by decide, Tryz.func234.trans (ay some (by kernel_rfl))⟩,
 f25 := ⟨Tryz.f235.name, by decide, Tryz.func235.trans (ay some (by kernel_rfl))⟩,
 f26 := ⟨Tryz.f236.name, by decide, Tryz.func236.trans (ay some (by kernel_rfl))⟩,
 f27 := ⟨Tryz.f237.name, by decide, Tryz.func237.trans (ay some (by kernel_rfl))⟩,
 f28 := Tryz.func225.trans (ay some (by kernel_rfl)),
 f29 := Tryz.func226.trans (ay some (by kernel_rfl)),
 f46 := ⟨Tryz.f269.name, by decide, Tryz.func269.trans (ay some (by kernel_rfl))⟩,
 f47 := Tryz.func256.trans (ay some (by kernel_rfl)),
 f48 := Tryz.func257.trans (ay some (by kernel_rfl)),
 f49 := ⟨Tryz.f270.name, by decide, Tryz.func270.trans (ay some (by kernel_rfl))⟩,
 f50 := ⟨Tryz.f271.name, by decide, Tryz.func271.trans (ay some (by kernel_rfl))⟩,
 f57 := ⟨Tryz.f295.name, by decide, Tryz.func295.trans (ay some (by kernel_rfl))⟩,
 t0 := ec,
 a0 := fM,
 z0 := fe,
 v0 := ew,
 t3 := gj,
 a3 := Tryz.isAgg3,
 z3 := Tryz.sizeOf3,
 v3 := gA,
 t4 := eO,
 a4 := gD,
 z4 := gq,
 v4 := eY,
 t5 := gk,
 a5 := Tryz.isAgg5,
 z5 := Tryz.sizeOf5,
 v5 := gB,
 t9 := dF,
 a9 := eW,
 z9 := eH,
 v9 := dK,
 t22 := Tryz.underlying25,
 a22 := Tryz.isAgg25,
 z22 := Tryz.sizeOf25,
 v22 := Tryz.zeroValue25,
 t25 := Tryz.underlying119,
 a25 := Tryz.isAgg119,
 z25 := Tryz.sizeOf119,
 v25 := Tryz.zeroValue119,
 t39 := fl,
 a39 := Tryz.isAgg215,
 z39 := Tryz.sizeOf215,
 v39 := fN,
 t45 := fp,
 a45 := Tryz.isAgg261,
 z45 := Tryz.sizeOf261,
 v45 := fO,
 t46 := fq,
 a46 := Tryz.isAgg262,
 z46 := Tryz.sizeOf262,
 v46 := fP,
 t50 := fQ,
 a50 := Tryz.isAgg39,
 z50 := Tryz.sizeOf39,
 v50 := gl,
 t53 := ft,
 a53 := Tryz.isAgg268,
 z53 := Tryz.sizeOf268,
 v53 := fR,
 t55 := fu,
 a55 := Tryz.isAgg270,
 z55 := Tryz.sizeOf270,
 v55 := fS,
 t66 := fw,
 a66 := Tryz.isAgg291,
 z66 := Tryz.sizeOf291,
 v66 := fT,
 t70 := fx,
 a70 := Tryz.isAgg295,
 z70 := Tryz.sizeOf295,
 v70 := fU,
 t76 := fy,
 a76 := Tryz.isAgg315,
 z76 := Tryz.sizeOf315,
 v76 := fV,
 t77 := fz,
 a77 := Tryz.isAgg142,
 z77 := Tryz.sizeOf142,
 v77 := fW}
def DC : Go.Shelf.Ren := ⟨fun | 6 => 182 | 8 => 179 | 9 => 229 | 19 => 225 | 20 => 226 | 21 => 260 | 22 => 261 | 23 => 262 | 24 => 263 | 25 => 264 | 26 => 265 | 27 => 266 | 28 => 267 | 29 => 268 | 36 => 291 | 31 => 256 | 32 => 257 | 37 => 292 | 38 => 293 | 39 => 294 | 41 => 300 | n => n, fun | 27 => 112 | 29 => 9 | 3 => 3 | 32 => 215 | 26 => 112 | 0 => 0 | 44 => 268 | 46 => 270 | 4 => 4 | 36 => 262 | 35 => 261 | 41 => 39 | 5 => 5 | 9 => 9 | 53 => 291 | 57 => 295 | 63 => 315 | 64 => 142 | n => n, fun | n => n⟩
theorem Eu : Go.Proofs.SlLaysM.n6 Tryz.prog DC := {
 mixed := by kernel_rfl,
 f6 := ⟨Tryz.f182.name, by decide, Tryz.func182.trans (ay some (by kernel_rfl))⟩,
 f8 := Tryz.func179.trans (ay some (by kernel_rfl)),
 f9 := ⟨Tryz.f229.name, by decide, Tryz.func229.trans (ay some (by kernel_rfl))⟩,
 f19 := Tryz.func225.trans (ay some (by kernel_rfl)),
 f20 := Tryz.func226.trans (ay some (by kernel_rfl)),
 f21 := ⟨Tryz.f260.name, by decide, Tryz.func260.trans (ay some (by kernel_rfl))⟩,
 f22 := ⟨Tryz.f261.name, by decide, Tryz.func261.trans (ay some (by kernel_rfl))⟩,
 f23 := ⟨Tryz.f262.name, by decide, Tryz.func262.trans (ay some (by kernel_rfl))⟩,
 f24 := ⟨Tryz.f263.name, by decide, Tryz.func263.trans (ay some (by kernel_rfl))⟩,
 f25 := ⟨Tryz.f264.name, by decide, Tryz.func264.trans (ay some (by kernel_rfl))⟩,
 f26 := ⟨Tryz.f265.name, by decide, Tryz.func265.trans (ay some (by kernel_rfl))⟩,
 f27 := ⟨Tryz.f266.name, by decide, Tryz.func266.trans (ay some (by kernel_rfl))⟩,
 f28 := ⟨Tryz.f267.name, by decide, Tryz.func267.trans (ay some (by kernel_rfl))⟩,
 f29 := ⟨Tryz.f268.name, by decide, Tryz.func268.trans (ay some (by kernel_rfl))⟩,
 f31 := Tryz.func256.trans (ay some (by kernel_rfl)),
 f32 := Tryz.func257.trans (ay some (by kernel_rfl)),
 f36 := ⟨Tryz.f291.name, by decide, Tryz.func291.trans (ay some (by kernel_rfl))⟩,
 f37 := ⟨Tryz.f292.name, by decide, Tryz.func292.trans (ay some (by kernel_rfl))⟩,
 f38 := ⟨Tryz.f293.name, by decide, Tryz.func293.trans (ay some (by kernel_rfl))⟩,
 f39 := ⟨Tryz.f294.name, by decide, Tryz.func294.trans (ay some (by kernel_rfl))⟩,
 f41 := ⟨Tryz.f300.name, by decide, Tryz.func300.trans (ay some (by kernel_rfl))⟩,
 t0 := ec,
 a0 := fM,
 z0 := fe,
 v0 := ew,
 t3 := gj,
 a3 := Tryz.isAgg3,
 z3 := Tryz.sizeOf3,
 v3 := gA,
 t4 := eO,
 a4 := gD,
 z4 := gq,
 v4 := eY,
 t5 := gk,
 a5 := Tryz.isAgg5,
 z5 := Tryz.sizeOf5,
 v5 := gB,
 t9 := dF,
 a9 := eW,
 z9 := eH,
 v9 := dK,
 t26 := fC,
 a26 := Tryz.isAgg112,
 z26 := Tryz.sizeOf112,
 v26 := fX,
 t27 := fC,
 a27 := Tryz.isAgg112,
 z27 := Tryz.sizeOf112,
 v27 := fX,
 t29 := dF,
 a29 := eW,
 z29 := eH,
 v29 := dK,
 t32 := fl,
 a32 := Tryz.isAgg215,
 z32 := Tryz.sizeOf215,
 v32 := fN,
 t35 := fp,
 a35 := Tryz.isAgg261,
 z35 := Tryz.sizeOf261,
 v35 := fO,
 t36 := fq,
 a36 := Tryz.isAgg262,
 z36 := Tryz.sizeOf262,
 v36 := fP,
 t41 := fQ,
 a41 := Tryz.isAgg39,
 z41 := Tryz.sizeOf39,
 v41 := gl,
 t44 := ft,
 a44 := Tryz.isAgg268,
 z44 := Tryz.sizeOf268,
 v44 := fR,
 t46 := fu,
 a46 := Tryz.isAgg270,
 z46 := Tryz.sizeOf270,
 v46 := fS,
 t53 := fw,
 a53 := Tryz.isAgg291,
 z53 := Tryz.sizeOf291,
 v53 := fT,
 t57 := fx,
 a57 := Tryz.isAgg295,
 z57 := Tryz.sizeOf295,
 v57 := fU,
 t63 := fy,
 a63 := Tryz.isAgg315,
 z63 := Tryz.sizeOf315,
 v63 := fV,
 t64 := fz,
 a64 := Tryz.isAgg142,
 z64 := Tryz.sizeOf142,
 v64 := fW}
def Gd : Go.Shelf.Ren := ⟨fun | 7 => 120 | 10 => 183 | n => n, fun | 23 => 175 | 26 => 9 | 3 => 4 | 28 => 180 | 0 => 0 | 27 => 179 | 33 => 194 | 4 => 4 | n => n, fun | n => n⟩
theorem F9 : Go.Proofs.SlLaysZ.n7 Tryz.prog Gd := {
 mixed := by kernel_rfl,
 f7 := ⟨Tryz.f120.name, by decide, Tryz.func120.trans (ay some (by kernel_rfl))⟩,
 f10 := ⟨Tryz.f183.name, by decide, Tryz.func183.trans (ay some (by kernel_rfl))⟩,
 t0 := ec,
 a0 := fM,
 z0 := fe,
 v0 := ew,
 t4 := eO,
 a4 := gD,
 z4 := gq,
 v4 := eY,
 t23 := Tryz.underlying175,
 a23 := Tryz.isAgg175,
 z23 := Tryz.sizeOf175,
 v23 := Tryz.zeroValue175,
 t26 := dF,
 a26 := eW,
 z26 := eH,
 v26 := dK,
 t27 := Tryz.underlying179,
 a27 := Tryz.isAgg179,
 z27 := Tryz.sizeOf179,
 v27 := Tryz.zeroValue179,
 t28 := Tryz.underlying180,
 a28 := Tryz.isAgg180,
 z28 := Tryz.sizeOf180,
 v28 := Tryz.zeroValue180,
 t33 := Tryz.underlying194,
 a33 := Tryz.isAgg194,
 z33 := Tryz.sizeOf194,
 v33 := Tryz.zeroValue194}
def F2 : Go.Shelf.Ren := ⟨fun | 6 => 119 | 8 => 181 | 9 => 182 | 11 => 228 | 13 => 179 | 12 => 229 | 23 => 225 | 24 => 226 | 14 => 260 | 15 => 261 | 16 => 262 | 17 => 263 | 18 => 264 | 19 => 265 | 20 => 266 | 21 => 267 | 22 => 268 | 25 => 291 | 26 => 256 | 27 => 257 | 28 => 292 | 29 => 293 | 30 => 294 | 31 => 300 | n => n, fun | 26 => 9 | 28 => 180 | 24 => 112 | 0 => 0 | 3 => 3 | 37 => 215 | 48 => 268 | 50 => 270 | 4 => 4 | 40 => 262 | 39 => 261 | 45 => 39 | 5 => 5 | 9 => 9 | 51 => 291 | 55 => 295 | 57 => 315 | 58 => 142 | 33 => 194 | n => n, fun | n => n⟩
theorem Gp : Go.Proofs.SlLaysZ.n6 Tryz.prog F2 := {
 mixed := by kernel_rfl,
 f6 := ⟨Tryz.f119.name, by decide, Tryz.func119.trans (ay some (by kernel_rfl))⟩,
 f8 := ⟨Tryz.f181.name, by decide, Tryz.func181.trans (ay some (by kernel_rfl))⟩,
 f11 := ⟨Tryz.f228.name, by decide, Tryz.func228.trans (ay some (by kernel_rfl))⟩,
 t0 := ec,
 a0 := fM,
 z0 := fe,
 v0 := ew,
 t24 := fC,
 a24 := Tryz.isAgg112,
 z24 := Tryz.sizeOf112,
 v24 := fX,
 t26 := dF,
 a26 := eW,
 z26 := eH,
 v26 := dK,
 t28 := Tryz.underlying180,
 a28 := Tryz.isAgg180,
 z28 := Tryz.sizeOf180,
 v28 := Tryz.zeroValue180,
 i26 := by kernel_rfl}
end Go.Proofs.YtbnbdigcbldfhaaGreat
namespace Go.Proofs.YtbnbdigcbldfhaaGreat
open Go.IntKind renaming wrap → wi0
open Go.RowKit
set_option maxRecDepth 10000
noncomputable section
structure gH where
 gU : ByteArray
 iz : ByteArray
def gK (x : gH) : List Value := [.string x.gU, .string x.iz]
def gO (x y : gH) : Bool := (iB x.gU y.gU) && ((iB x.iz y.iz) && true)
theorem gP {x y : gH} : gO x y = true ↔ x = y := by
 cases x; cases y; simp [gO, iX]
theorem rF (x : gH) : (gK x).length = 2 := rfl
theorem oH (x : gH) : ∀ u ∈ gK x, u.oneCell' = true := by
 intro u hu
 simp only [gK, aj, bR, dW] at hu
 rcases hu with rfl | rfl <;> rfl
structure gG where
 Kind : Int
 Head : gH
 ib : ByteArray
 B : gH
 C : gH
 iv : ByteArray
def gJ (x : gG) : List Value := [.int .i64 x.Kind, .string x.Head.gU, .string x.Head.iz, .string x.ib, .string x.B.gU, .string x.B.iz, .string x.C.gU, .string x.C.iz, .string x.iv]
def mJ (x y : gG) : Bool := (x.Kind == y.Kind) && ((gO x.Head y.Head) && ((iB x.ib y.ib) && ((gO x.B y.B) && ((gO x.C y.C) && ((iB x.iv y.iv) && true)))))
theorem uP {x y : gG} : mJ x y = true ↔ x = y := by
 cases x; cases y; simp [mJ, iX, gP]
theorem iN (x : gG) : (gJ x).length = 9 := rfl
theorem jY (x : gG) : ∀ u ∈ gJ x, u.oneCell' = true := by
 intro u hu
 simp only [gJ, aj, bR, dW] at hu
 rcases hu with rfl | rfl | rfl | rfl | rfl | rfl | rfl | rfl | rfl <;> rfl
structure gI where
 gH : gH
 ib : ByteArray
def gS (x : gI) : List Value := [.string x.gH.gU, .string x.gH.iz, .string x.ib]
def iy (x y : gI) : Bool := (gO x.gH y.gH) && ((iB x.ib y.ib) && true)
theorem iI {x y : gI} : iy x y = true ↔ x = y := by
 cases x; cases y; simp [iy, iX, gP]
theorem kO (x : gI) : (gS x).length = 3 := rfl
theorem rJ (x : gI) : ∀ u ∈ gS x, u.oneCell' = true := by
 intro u hu
 simp only [gS, aj, bR, dW] at hu
 rcases hu with rfl | rfl | rfl <;> rfl
structure iu where
 gG : gG
 gI : gI
def iQ (x : iu) : List Value := [.int .i64 x.gG.Kind, .string x.gG.Head.gU, .string x.gG.Head.iz, .string x.gG.ib, .string x.gG.B.gU, .string x.gG.B.iz, .string x.gG.C.gU, .string x.gG.C.iz, .string x.gG.iv, .string x.gI.gH.gU, .string x.gI.gH.iz, .string x.gI.ib]
theorem pg (x : iu) : (iQ x).length = 12 := rfl
theorem sx (x : iu) : ∀ u ∈ iQ x, u.oneCell' = true := by
 intro u hu
 simp only [iQ, aj, bR, dW] at hu
 rcases hu with rfl | rfl | rfl | rfl | rfl | rfl | rfl | rfl | rfl | rfl | rfl | rfl <;> rfl
def kE (a0 : ByteArray) (a : Int) : Option Int :=
 some (qJ a0 a)
def mR (a0 : ByteArray) (a : Int) : Option Int :=
 ((kE a0 a).bind fun b => some b)
def pk  : List Int → Option Bool
 | [] => some true
 | c :: a => ((mR (⟨#[97, 98, 99, 100, 101, 102, 103, 104, 105, 106, 107, 108, 109, 110, 111, 112, 113, 114, 115, 116, 117, 118, 119, 120, 121, 122, 48, 49, 50, 51, 52, 53, 54, 55, 56, 57, 45]⟩ : ByteArray) c).bind fun b => (if (decide (b < 0)) then some false else (pk a)))
def uH (a0 : ByteArray) : Option Bool :=
 ((vh a0).bind fun a => pk a)
def mw (a0 : ByteArray) : Option Bool :=
 ((if (decide ((a0.size : Int) ≥ 1)) then some (decide ((a0.size : Int) ≤ 16)) else some false).bind fun x2 => ((if x2 then ((te a0 0).bind fun a => ((mR (⟨#[97, 98, 99, 100, 101, 102, 103, 104, 105, 106, 107, 108, 109, 110, 111, 112, 113, 114, 115, 116, 117, 118, 119, 120, 121, 122]⟩ : ByteArray) (a.toNat : Int)).bind fun c => some (decide (c ≥ 0)))) else some false).bind fun d => ((if d then ((uH a0).bind fun b => some b) else some false).bind fun g => some g)))
def rl (a0 : List Int) : Option (List Int) :=
 ((jw 1 ([]) a0).bind fun a => some a)
def mx (a0 : gH) : Option Bool :=
 ((mw a0.gU).bind fun c => ((if c then ((mw a0.iz).bind fun a => some a) else some false).bind fun b => some b))
def mh (a0 a : ByteArray) : Option Int :=
 some (oO a0 a)
def oY (a0 a : ByteArray) : Option Int :=
 ((mh a0 a).bind fun b => some b)
def qj  : List Int → Option Int
 | [] => some 0
 | a :: b => (if (a != 0) then some a else (qj b))
def tL (a0 : List Int) : Option Int :=
 qj a0
def po (a0 d : gH) : Option Int :=
 ((oY a0.gU d.gU).bind fun a => ((oY a0.iz d.iz).bind fun b => ((tL ([a, b])).bind fun c => some c)))
def my (a0 : gG) : Option Bool :=
 ((mx a0.Head).bind fun w => (((if (a0.Kind == 1) then ((if w then ((mw a0.ib).bind fun b => some b) else some false).bind fun n => some (Sum.inr (n, (⟨a0.Kind, a0.Head, a0.ib, (⟨zS, zS⟩ : gH), (⟨zS, zS⟩ : gH), zS⟩ : gG)))) else (if (a0.Kind == 2) then ((if w then ((mx a0.B).bind fun c => some c) else some false).bind fun o => some (Sum.inr (o, (⟨a0.Kind, a0.Head, zS, a0.B, (⟨zS, zS⟩ : gH), zS⟩ : gG)))) else (if (a0.Kind == 3) then ((if w then ((mx a0.B).bind fun g => some g) else some false).bind fun p => ((if p then some (iB a0.B.gU a0.Head.gU) else some false).bind fun q => ((if q then ((mw a0.iv).bind fun d => some d) else some false).bind fun r => some (Sum.inr (r, (⟨a0.Kind, a0.Head, zS, a0.B, (⟨zS, zS⟩ : gH), a0.iv⟩ : gG)))))) else (if (a0.Kind == 4) then ((if w then ((mx a0.B).bind fun j => some j) else some false).bind fun t => ((if t then ((mx a0.C).bind fun i => some i) else some false).bind fun u => ((if u then ((po a0.B a0.C).bind fun h => some (decide (h < 0))) else some false).bind fun v => some (Sum.inr (v, (⟨a0.Kind, a0.Head, zS, a0.B, a0.C, zS⟩ : gG)))))) else some (Sum.inl false))))) : Option (Bool ⊕ (Bool × gG))).bind fun s => match s with | .inl a => some a | .inr (k, l) => ((if k then some (mJ l a0) else some false).bind fun m => some m)))
def lK  : Nat → Int → (List Int) → Option (Bool × (List Int))
 | 0, _, _ => none
 | g + 1, a, c => (if (decide (a ≥ 128)) then ((jw 1 c ([(IntKind.u8.wrap (BitVec.ofInt (IntKind.bits .u8) (IntKind.u8.wrap a) ||| BitVec.ofInt (IntKind.bits .u8) 128).toNat)])).bind fun d => (lK g (Int.fdiv a (2 ^ min (Int.toNat 7) (IntKind.bits .i64))) d)) else ((jw 1 c ([(IntKind.u8.wrap a)])).bind fun b => some (true, b)))
def mP (a : List Int) (b : Int) : Option (Bool × (List Int)) :=
 (if (decide (b < 0)) then some (false, a) else lK jq b a)
def qX (a b : List Int) : Option (Bool × (List Int)) :=
 (if (decide ((b.length : Int) > 2048)) then some (false, a) else ((mP a (b.length : Int)).bind fun d => ((jw 1 d.2 b).bind fun c => some (true, c))))
def od (a : List Int) (h : ByteArray) : Option (Bool × (List Int)) :=
 ((mw h).bind fun i => (((if i then ((vh h).bind fun d => ((qX a d).bind fun b => some (b.1, b.2))) else some (false, a)) : Option (Bool × (List Int))).bind fun (g, c) => some (g, c)))
def mu (a : List Int) (g : gH) : Option (Bool × (List Int)) :=
 ((mx g).bind fun k => (((if k then ((od a g.gU).bind fun d => some (d.1, d.2)) else some (false, a)) : Option (Bool × (List Int))).bind fun (i, b) => (((if i then ((od b g.iz).bind fun c => some (c.1, c.2)) else some (false, b)) : Option (Bool × (List Int))).bind fun (j, h) => some (j, h))))
def ry (a : List Int) : Option (List Int) :=
 ((rl a).bind fun b => some b)
def qo (a0 : gG) : Option (List Int) :=
 ((my a0).bind fun l => (if (!l) then some [] else ((mP ([]) a0.Kind).bind fun m => ((mu m.2 a0.Head).bind fun a => (((if (a0.Kind == 1) then ((od a.2 a0.ib).bind fun d => some d.2) else (if (a0.Kind == 2) then ((mu a.2 a0.B).bind fun g => some g.2) else (if (a0.Kind == 3) then ((mu a.2 a0.B).bind fun h => ((od h.2 a0.iv).bind fun i => some i.2)) else (if (a0.Kind == 4) then ((mu a.2 a0.B).bind fun j => ((mu j.2 a0.C).bind fun k => some k.2)) else some a.2)))) : Option (List Int)).bind fun b => ((ry b).bind fun c => some c))))))
def mO (a0 : List gG) : Option (List gG) :=
 ((jw 136 ([]) a0).bind fun a => some a)
def kK (f1 : gG → Option Bool) : List gG → Nat → Option Int
 | [], _ => some (-1)
 | c :: a, i35 => ((f1 c).bind fun b => (if b then some (i35 : Int) else (kK f1 a (i35 + 1))))
def oD (a0 : List gG) (f1 : gG → Option Bool) : Option Int :=
 kK f1 a0 0
def jR (f1 : gG → Option Bool) : Nat → (List gG) → Int → Int → Option (List gG)
 | 0, _, _, _ => none
 | n321 + 1, b, a, c => (if (decide (c < (b.length : Int))) then ((((kM b c).bind fun d => ((f1 d).bind fun h => (if (!h) then ((kM b a).bind fun j => some ((b.set (Int.toNat a) d), (wi0 .i64 (a + 1)))) else some (b, a)))) : Option ((List gG) × Int)).bind fun (g, i) => (jR f1 n321 g i (wi0 .i64 (c + 1)))) else ((mK (decide (0 ≤ a) && decide (a ≤ (b.length : Int)))).bind fun _ => ((mK (decide (0 ≤ a) && decide (a ≤ ((lR b (Int.toNat a) (⟨0, (⟨zS, zS⟩ : gH), zS, (⟨zS, zS⟩ : gH), (⟨zS, zS⟩ : gH), zS⟩ : gG)).length : Int)))).bind fun _ => some ((lR b (Int.toNat a) (⟨0, (⟨zS, zS⟩ : gH), zS, (⟨zS, zS⟩ : gH), (⟨zS, zS⟩ : gH), zS⟩ : gG)).take (Int.toNat a)))))
def mB (a0 : List gG) (f1 : gG → Option Bool) : Option (List gG) :=
 ((oD a0 f1).bind fun a => (if (a == (-1)) then some a0 else jR f1 jq a0 a (wi0 .i64 (a + 1))))
def ri (a0 : gG) : Option Bool :=
 ((my a0).bind fun a => some (!a))
def ux (a0 a : List Int) : Option Int :=
 some (sQ a0 a)
def ob (a0 d : gG) : Option Int :=
 ((qo a0).bind fun a => ((qo d).bind fun b => ((ux a b).bind fun c => some c)))
def kp (b : Int) : Nat → (List gG) → Int → Int → Option ((List gG) × Int)
 | 0, _, _, _ => none
 | h + 1, a, c, d => (if (decide (d < ((a.length - (Int.toNat b) : Nat) : Int))) then ((((kM (a.drop (Int.toNat b)) d).bind fun j => ((kM (a.drop (Int.toNat b)) (wi0 .i64 (d - 1))).bind fun k => (if (!(mJ j k)) then ((kM (a.drop (Int.toNat b)) d).bind fun l => ((kM a c).bind fun m => some ((a.set (Int.toNat c) l), (wi0 .i64 (c + 1))))) else some (a, c)))) : Option ((List gG) × Int)).bind fun (g, i) => (kp b h g i (wi0 .i64 (d + 1)))) else some (a, c))
def ku (a0 : List gG) : Nat → Int → Option (List gG)
 | 0, _ => none
 | d + 1, a => (if (decide (a < (a0.length : Int))) then ((kM a0 a).bind fun g => ((kM a0 (wi0 .i64 (a - 1))).bind fun h => (if (mJ g h) then ((mK (decide (0 ≤ a) && decide (a ≤ (a0.length : Int)))).bind fun _ => ((kp a jq a0 a 1).bind fun (c, b) => ((mK (decide (0 ≤ b) && decide (b ≤ (c.length : Int)))).bind fun _ => ((mK (decide (0 ≤ b) && decide (b ≤ ((lR c (Int.toNat b) (⟨0, (⟨zS, zS⟩ : gH), zS, (⟨zS, zS⟩ : gH), (⟨zS, zS⟩ : gH), zS⟩ : gG)).length : Int)))).bind fun _ => some ((lR c (Int.toNat b) (⟨0, (⟨zS, zS⟩ : gH), zS, (⟨zS, zS⟩ : gH), (⟨zS, zS⟩ : gH), zS⟩ : gG)).take (Int.toNat b)))))) else (ku a0 d (wi0 .i64 (a + 1)))))) else some a0)
def nB (a0 : List gG) : Option (List gG) :=
 (if (decide ((a0.length : Int) < 2)) then some a0 else ku a0 jq 1)
def nl (a0 : List gG) : Option (List gG) :=
 ((mO a0).bind fun d => ((mB d (fun (x : gG) => ri x)).bind fun a => ((rV (fun (x : (gG × gG)) => ob x.1 x.2) a).bind fun b => ((nB b).bind fun c => some c))))
def lL (c : gG) : List gG → Nat → Option Int
 | [], _ => some (-1)
 | b :: a, i46 => (if (mJ c b) then some (i46 : Int) else (lL c a (i46 + 1)))
def qa (a0 : List gG) (a : gG) : Option Int :=
 lL a a0 0
def oV (a0 : List gG) (a : gG) : Option Bool :=
 ((qa a0 a).bind fun b => some (decide (b ≥ 0)))
def tz (a0 : List gG) (a : gG) : Option Bool :=
 ((oV a0 a).bind fun b => some b)
def qw (a0 : gG) : Option (List gH) :=
 ((my a0).bind fun g => (if (!g) then some [] else (((if (a0.Kind != 1) then ((jw 32 ([a0.Head]) ([a0.B])).bind fun d => some d) else some ([a0.Head])) : Option (List gH)).bind fun a => (((if (a0.Kind == 4) then ((jw 32 a ([a0.C])).bind fun c => some c) else some a) : Option (List gH)).bind fun b => some b))))
def kA (h : gG) (a : List (ByteArray × (List gG))) (d : List gG) : List gH → (List (gH × (List gG))) → Option ((List gG) × (List (gH × (List gG))) × (List (ByteArray × (List gG))))
 | [], b => (if (h.Kind == 3) then ((jw 136 ((ij iB a h.iv).getD []) ([h])).bind fun j => some (d, b, (ji iB a h.iv j))) else some (d, b, a))
 | c :: g, b => ((jw 136 ((ij gO b c).getD []) ([h])).bind fun i => (kA h a d g (ji gO b c i)))
def nM (h : List (gH × (List (ByteArray × Bool)))) (a : List gG) (c : List (gH × (List gG))) (b : List (ByteArray × (List gG))) (d : List gI) (k : Int) (i : gG) : Option ((List gG) × (List (gH × (List gG))) × (List (ByteArray × (List gG)))) :=
 ((jw 136 a ([i])).bind fun j => ((qw i).bind fun g => ((mK (decide (0 ≤ 1) && decide (1 ≤ (g.length : Int)))).bind fun _ => kA i b j (g.drop (Int.toNat 1)) c)))
def kf (a : List (gH × (List (ByteArray × Bool)))) (d : List gG) (h : List (gH × (List gG))) (g : List (ByteArray × (List gG))) (b : List gI) (c : Int) (i : gH) (a2 : ByteArray) : Option ((List (gH × (List (ByteArray × Bool)))) × (List gI) × Int) :=
 (if (jh iB ((ij gO a i).getD []) a2 false) then some (a, b, c) else (((if (ij gO a i).isNone then ((yu gO a i ([])).bind fun j => some j) else some a) : Option (List (gH × (List (ByteArray × Bool))))).bind fun k => ((yp gO iB k i a2 true).bind fun l => ((jw 48 b ([(⟨i, a2⟩ : gI)])).bind fun m => some (l, m, (wi0 .i64 (c + 1)))))))
def kL (a0 : List (ByteArray × Bool)) : Option Unit :=
 some ()
def js (a : List (gH × (List (ByteArray × Bool)))) (b : List gG) (g : List (gH × (List gG))) (c : List (ByteArray × (List gG))) (d : List gI) (i : Int) (j : gH) : Option (List ByteArray) :=
 ((kL ((ij gO a j).getD [])).bind fun k => ((yK ((ij gO a j).getD [])).bind fun h => some h))
def lP (a : List gG) (c : List (gH × (List gG))) (b : List (ByteArray × (List gG))) (a2 : gH) : List ByteArray → (List (gH × (List (ByteArray × Bool)))) → (List gI) → Int → Option ((List (gH × (List (ByteArray × Bool)))) × (List gI) × Int)
 | [], d, g, i => some (d, g, i)
 | k :: j, d, g, i => ((kf d a c b g i a2 k).bind fun h => (lP a c b a2 j h.1 h.2.1 h.2.2))
def oB (g : List (gH × (List (ByteArray × Bool)))) (a : List gG) (d : List (gH × (List gG))) (b : List (ByteArray × (List gG))) (c : List gI) (h : Int) (i a2 : gH) : Option ((List (gH × (List (ByteArray × Bool)))) × (List gI) × Int) :=
 ((js g a d b c h i).bind fun j => lP a d b a2 j g c h)
def mQ (a : List (gH × (List (ByteArray × Bool)))) (c : List gG) (g : List (gH × (List gG))) (d : List (ByteArray × (List gG))) (b : List gI) (h : Int) (i : gG) (a2 : gI) : Option ((List (gH × (List (ByteArray × Bool)))) × (List gI) × Int) :=
 (if (i.Kind == 2) then ((kf a c g d b h i.Head a2.ib).bind fun l => some (l.1, l.2.1, l.2.2)) else (if (i.Kind == 3) then ((oB a c g d b h (⟨a2.ib, i.iv⟩ : gH) i.Head).bind fun j => some (j.1, j.2.1, j.2.2)) else (if (i.Kind == 4) then ((if (jh iB ((ij gO a i.B).getD []) a2.ib false) then some (jh iB ((ij gO a i.C).getD []) a2.ib false) else some false).bind fun m => (if m then ((kf a c g d b h i.Head a2.ib).bind fun k => some (k.1, k.2.1, k.2.2)) else some (a, b, h))) else some (a, b, h))))
def lc (a : List gG) (c : List (gH × (List gG))) (b : List (ByteArray × (List gG))) (l : gG) : List ByteArray → (List (gH × (List (ByteArray × Bool)))) → (List gI) → Int → Option ((List (gH × (List (ByteArray × Bool)))) × (List gI) × Int)
 | [], d, g, i => some (d, g, i)
 | k :: j, d, g, i => ((mQ d a c b g i l (⟨l.B, k⟩ : gI)).bind fun h => (lc a c b l j h.1 h.2.1 h.2.2))
def nA (g : List (gH × (List (ByteArray × Bool)))) (a : List gG) (d : List (gH × (List gG))) (b : List (ByteArray × (List gG))) (c : List gI) (h : Int) (i : gG) : Option ((List (gH × (List (ByteArray × Bool)))) × (List gI) × Int) :=
 (if (i.Kind == 1) then ((kf g a d b c h i.Head i.ib).bind fun k => some (k.1, k.2.1, k.2.2)) else ((js g a d b c h i.B).bind fun j => lc a d b i j g c h))
def kk (h : gI) (a : List gG) (c : List (gH × (List gG))) (b : List (ByteArray × (List gG))) : List gG → (List (gH × (List (ByteArray × Bool)))) → (List gI) → Int → Option ((List (gH × (List (ByteArray × Bool)))) × (List gI) × Int)
 | [], d, g, i => some (d, g, i)
 | l :: k, d, g, i => (if (jh iB ((ij gO d l.B).getD []) h.gH.gU false) then ((kf d a c b g i l.Head h.ib).bind fun j => (kk h a c b k j.1 j.2.1 j.2.2)) else (kk h a c b k d g i))
def kV (a : List gG) (c : List (gH × (List gG))) (b : List (ByteArray × (List gG))) (j : gI) : List gG → (List (gH × (List (ByteArray × Bool)))) → (List gI) → Int → Option ((List (gH × (List (ByteArray × Bool)))) × (List gI) × Int)
 | [], d, g, i => some (d, g, i)
 | l :: k, d, g, i => ((mQ d a c b g i l j).bind fun h => (kV a c b j k h.1 h.2.1 h.2.2))
def jA (c : List gG) (b : List (gH × (List gG))) (a : List (ByteArray × (List gG))) : Nat → (List (gH × (List (ByteArray × Bool)))) → (List gI) → Int → Option ((List (gH × (List (ByteArray × Bool)))) × (List gI) × Int)
 | 0, _, _, _ => none
 | n + 1, h, d, i => (if (decide ((d.length : Int) > 0)) then ((kM d 0).bind fun g => ((mK (decide (0 ≤ 1) && decide (1 ≤ (d.length : Int)))).bind fun _ => ((kV c b a g ((ij gO b g.gH).getD []) h (d.drop (Int.toNat 1)) i).bind fun (j, k, o) => ((kk g c b a ((ij iB a g.gH.iz).getD []) j k o).bind fun (l, m, p) => (jA c b a n l m p))))) else some (h, d, i))
def oU (g : List (gH × (List (ByteArray × Bool)))) (a : List gG) (d : List (gH × (List gG))) (b : List (ByteArray × (List gG))) (c : List gI) (h : Int) : Option ((List (gH × (List (ByteArray × Bool)))) × (List gI) × Int) :=
 jA a d b jq g c h
def ki (l : Int) : List gG → (List (gH × (List (ByteArray × Bool)))) → (List gG) → (List (gH × (List gG))) → (List (ByteArray × (List gG))) → (List gI) → Int → Option (Int × (List (gH × (List (ByteArray × Bool)))) × (List gG) × (List (gH × (List gG))) × (List (ByteArray × (List gG))) × (List gI) × Int)
 | [], c, a, d, g, h, i => ((oU c a d g h i).bind fun j => some ((wi0 .i64 (j.2.2 - l)), j.1, a, d, g, j.2.1, j.2.2))
 | k :: n, c, a, d, g, h, i => ((my k).bind fun o => ((if o then ((tz a k).bind fun p => some (!p)) else some false).bind fun q => (if q then ((nM c a d g h i k).bind fun b => ((nA c b.1 b.2.1 b.2.2 h i k).bind fun m => (ki l n m.1 b.1 b.2.1 b.2.2 m.2.1 m.2.2))) else (ki l n c a d g h i))))
def oA (g : List (gH × (List (ByteArray × Bool)))) (a : List gG) (d : List (gH × (List gG))) (b : List (ByteArray × (List gG))) (c : List gI) (h : Int) (i : List gG) : Option (Int × (List (gH × (List (ByteArray × Bool)))) × (List gG) × (List (gH × (List gG))) × (List (ByteArray × (List gG))) × (List gI) × Int) :=
 ki h i g a d b c h
def tp (a0 : List gG) : Option ((List (gH × (List (ByteArray × Bool)))) × (List gG) × (List (gH × (List gG))) × (List (ByteArray × (List gG))) × (List gI) × Int) :=
 ((oA ([]) ([]) ([]) ([]) ([]) 0 a0).bind fun a => some (a.2.1, a.2.2.1, a.2.2.2.1, a.2.2.2.2.1, a.2.2.2.2.2.1, a.2.2.2.2.2.2))
def me  : List gG → Int → Option Int
 | [], b => some b
 | a :: c, b => (me c (wi0 .i64 (b + (wi0 .i64 ((wi0 .i64 ((wi0 .i64 ((wi0 .i64 ((wi0 .i64 ((wi0 .i64 ((wi0 .i64 ((wi0 .i64 (20 + (a.Head.gU.size : Int))) + (a.Head.iz.size : Int))) + (a.ib.size : Int))) + (a.B.gU.size : Int))) + (a.B.iz.size : Int))) + (a.C.gU.size : Int))) + (a.C.iz.size : Int))) + (a.iv.size : Int))))))
def s9 (a0 : List gG) : Option Int :=
 me a0 0
def lX (a0 : ByteArray) : Nat → Int → Option Bool
 | 0, _ => none
 | c + 1, b => (if (decide (b < (a0.size : Int))) then ((te a0 b).bind fun a => ((if (decide ((a.toNat : Int) < 97)) then some true else some (decide ((a.toNat : Int) > 122))).bind fun d => ((if d then ((if (decide ((a.toNat : Int) < 48)) then some true else some (decide ((a.toNat : Int) > 57))).bind fun i => some i) else some false).bind fun g => ((if g then some ((a.toNat : Int) != 45) else some false).bind fun h => (if h then some false else (lX a0 c (wi0 .i64 (b + 1)))))))) else some true)
def mL (a0 : ByteArray) : Option Bool :=
 ((if (iB a0 zS) then some true else some (decide ((a0.size : Int) > 16))).bind fun x2 => ((if x2 then some true else ((te a0 0).bind fun b => some (decide ((b.toNat : Int) < 97)))).bind fun c => ((if c then some true else ((te a0 0).bind fun a => some (decide ((a.toNat : Int) > 122)))).bind fun d => (if d then some false else lX a0 jq 0))))
def nC (a0 : gH) : Option Bool :=
 ((mL a0.gU).bind fun c => ((if c then ((mL a0.iz).bind fun a => some a) else some false).bind fun b => some b))
def ow (a0 a : gH) : Option Bool :=
 ((if (li a0.gU a.gU) then some true else ((if (iB a0.gU a.gU) then some (li a0.iz a.iz) else some false).bind fun c => some c)).bind fun b => some b)
def oG (a0 : gG) : Option Bool :=
 ((nC a0.Head).bind fun r => (if (!r) then some false else (if (a0.Kind == 1) then ((mL a0.ib).bind fun h => ((if h then some (gO a0.B (⟨zS, zS⟩ : gH)) else some false).bind fun j => ((if j then some (gO a0.C (⟨zS, zS⟩ : gH)) else some false).bind fun k => ((if k then some (iB a0.iv zS) else some false).bind fun l => some l)))) else ((if (!(iB a0.ib zS)) then some true else ((nC a0.B).bind fun c => some (!c))).bind fun m => (if m then some false else (if (a0.Kind == 2) then ((if (gO a0.C (⟨zS, zS⟩ : gH)) then some (iB a0.iv zS) else some false).bind fun n => some n) else (if (a0.Kind == 3) then ((if (gO a0.C (⟨zS, zS⟩ : gH)) then some (iB a0.B.gU a0.Head.gU) else some false).bind fun o => ((if o then ((mL a0.iv).bind fun i => some i) else some false).bind fun p => some p)) else ((if (a0.Kind == 4) then some (iB a0.iv zS) else some false).bind fun q => ((if q then ((nC a0.C).bind fun b => some b) else some false).bind fun d => ((if d then ((ow a0.B a0.C).bind fun a => some a) else some false).bind fun g => some g))))))))))
def nJ  : Nat → Int → ByteArray → Option ByteArray
 | 0, _, _ => none
 | n45 + 1, a, b => (if (decide (a ≥ 128)) then ((sr b (wA ([(IntKind.u8.wrap (wi0 .i64 (128 + (Int.tmod a 128))))]))).bind fun c => (nJ n45 (wi0 .i64 (Int.tdiv a 128)) c)) else ((sr b (wA ([(IntKind.u8.wrap a)]))).bind fun d => some d))
def px (a0 : Int) : Option ByteArray :=
 nJ jq a0 zS
def om (a0 : ByteArray) : Option ByteArray :=
 ((px (a0.size : Int)).bind fun a => ((sr a a0).bind fun b => some b))
def oI (a0 : gH) : Option ByteArray :=
 ((om a0.gU).bind fun a => ((om a0.iz).bind fun b => ((sr a b).bind fun c => some c)))
def s7 (a0 : gG) : Option ByteArray :=
 ((px a0.Kind).bind fun d => ((oI a0.Head).bind fun g => ((sr d g).bind fun a => (if (a0.Kind == 1) then ((om a0.ib).bind fun h => ((sr a h).bind fun l => some l)) else ((oI a0.B).bind fun i => ((sr a i).bind fun b => (((if (a0.Kind == 3) then ((om a0.iv).bind fun k => ((sr b k).bind fun n => some n)) else some b) : Option ByteArray).bind fun c => (((if (a0.Kind == 4) then ((oI a0.C).bind fun j => ((sr c j).bind fun m => some m)) else some c) : Option ByteArray).bind fun o => some o))))))))
def pO (a0 : gG) : Option ByteArray :=
 ((oG a0).bind fun a => (if (!a) then some zS else ((s7 a0).bind fun b => some b)))
def nx (a0 c : gG) : Option Int :=
 ((pO a0).bind fun a => ((pO c).bind fun b => (if (li a b) then some (-1) else (if (!(li a b || iB a b)) then some 1 else some 0))))
def nc (a : List gG) : List gG → Bool → gG → Option (Bool × gG)
 | [], c, d => some (c, d)
 | b :: g, c, d => ((oG b).bind fun h => ((if h then ((if ((a.length : Int) == 0) then some true else ((kM a (wi0 .i64 ((a.length : Int) - 1))).bind fun o => ((nx o b).bind fun j => some (decide (j < 0))))).bind fun n => some n) else some false).bind fun k => ((if k then ((if (!c) then some true else ((nx b d).bind fun i => some (decide (i < 0)))).bind fun m => some m) else some false).bind fun l => (if l then (nc a g true b) else (nc a g c d)))))
def nX (a0 : List gG) : Nat → (List gG) → Option (List gG)
 | 0, _ => none
 | c + 1, a => ((nc a a0 false (⟨0, (⟨zS, zS⟩ : gH), zS, (⟨zS, zS⟩ : gH), (⟨zS, zS⟩ : gH), zS⟩ : gG)).bind fun (d, g) => (if (!d) then some a else ((jw 136 a ([g])).bind fun b => (nX a0 c b))))
def nT (a0 : List gG) : Option (List gG) :=
 nX a0 jq ([])
def nW (a : List ByteArray) : List ByteArray → ByteArray → Option ByteArray
 | [], c => some c
 | b :: d, c => ((mL b).bind fun h => ((if h then ((if ((a.length : Int) == 0) then some true else ((kM a (wi0 .i64 ((a.length : Int) - 1))).bind fun g => some (!(li b g || iB b g)))).bind fun l => some l) else some false).bind fun i => ((if i then ((if (iB c zS) then some true else some (li b c)).bind fun k => some k) else some false).bind fun j => (if j then (nW a d b) else (nW a d c)))))
def qI (a0 : List ByteArray) : Nat → (List ByteArray) → Option (List ByteArray)
 | 0, _ => none
 | d + 1, a => ((nW a a0 zS).bind fun b => (if (iB b zS) then some a else ((jw 16 a ([b])).bind fun c => (qI a0 d c))))
def uJ (a0 : List ByteArray) : Option (List ByteArray) :=
 qI a0 jq ([])
def ov  : List gG → (List ByteArray) → Option (List ByteArray)
 | [], b => ((uJ b).bind fun d => some d)
 | a :: g, b => ((jw 16 b ([a.ib, a.Head.gU, a.B.gU, a.C.gU])).bind fun c => (ov g c))
def pJ (a0 : List gG) : Option (List ByteArray) :=
 ov a0 ([])
def rf (d : gH) (a2 : ByteArray) : List gI → Option Bool
 | [] => some false
 | b :: c => ((if (gO b.gH d) then some (iB b.ib a2) else some false).bind fun a => (if a then some true else (rf d a2 c)))
def nm (a0 : List gI) (a : gH) (a2 : ByteArray) : Option Bool :=
 rf a a2 a0
def qh (a0 : List gI) (h : gG) (a3 : ByteArray) : List ByteArray → Option Bool
 | [] => some false
 | a :: b => ((nm a0 h.B a).bind fun c => ((if c then ((nm a0 (⟨a, h.iv⟩ : gH) a3).bind fun d => some d) else some false).bind fun g => (if g then some true else (qh a0 h a3 b))))
def qm (a0 : List gI) (a : gG) (a2 : List ByteArray) (a3 : ByteArray) : Option Bool :=
 (if (a.Kind == 1) then some (iB a.ib a3) else (if (a.Kind == 2) then ((nm a0 a.B a3).bind fun d => some d) else (if (a.Kind == 4) then ((nm a0 a.B a3).bind fun g => ((if g then ((nm a0 a.C a3).bind fun b => some b) else some false).bind fun c => some c)) else qh a0 a a3 a2)))
def pj (a0 a : gI) : Option Bool :=
 ((ow a0.gH a.gH).bind fun d => ((if d then some true else ((if (gO a0.gH a.gH) then some (li a0.ib a.ib) else some false).bind fun c => some c)).bind fun b => some b))
def lD (b a0 : List gI) : List gI → Nat → Int → Option Int
 | [], _, a => some a
 | g :: d, c, a => ((if ((b.length : Int) == 0) then some true else ((kM b (wi0 .i64 ((b.length : Int) - 1))).bind fun n => ((pj n g).bind fun i => some i))).bind fun j => ((if j then ((if (decide (a < 0)) then some true else ((kM a0 a).bind fun m => ((pj g m).bind fun h => some h))).bind fun l => some l) else some false).bind fun k => (if k then (lD b a0 d (c + 1) (c : Int)) else (lD b a0 d (c + 1) a))))
def lB (a0 : List gI) : List gI → (List gI) → Option (List gI)
 | [], a => some a
 | h :: c, a => ((lD a a0 a0 0 (-1)).bind fun b => (if (decide (b ≥ 0)) then ((kM a0 b).bind fun g => ((jw 48 a ([g])).bind fun d => (lB a0 c d))) else (lB a0 c a)))
def u1 (a0 : List gI) : Option (List gI) :=
 lB a0 a0 ([])
def pR (b : gG) (l : List ByteArray) : List ByteArray → (List gI) → Bool → Option ((List gI) × Bool)
 | [], a, d => some (a, d)
 | c :: g, a, d => ((nm a b.Head c).bind fun i => ((if (!i) then ((qm a b l c).bind fun j => some j) else some false).bind fun k => (if k then ((jw 48 a ([(⟨b.Head, c⟩ : gI)])).bind fun h => (pR b l g h true)) else (pR b l g a d))))
def rj (i : List ByteArray) : List gG → (List gI) → Bool → Option ((List gI) × Bool)
 | [], a, b => some (a, b)
 | g :: c, a, b => ((pR g i i a b).bind fun (d, h) => (rj i c d h))
def rk (h : List ByteArray) (i : List gG) : Nat → (List gI) → Option (List gI)
 | 0, _ => none
 | b + 1, g => ((rj h i g false).bind fun (a, d) => (if (!d) then ((u1 a).bind fun c => some c) else (rk h i b a)))
def vB (a0 : List gG) : Option (List gI) :=
 ((nT a0).bind fun b => ((pJ b).bind fun a => rk a b jq ([])))
def jX (b : Int) : Nat → (List ByteArray) → Int → Int → Option ((List ByteArray) × Int)
 | 0, _, _, _ => none
 | h + 1, a, c, d => (if (decide (d < ((a.length - (Int.toNat b) : Nat) : Int))) then ((((kM (a.drop (Int.toNat b)) d).bind fun j => ((kM (a.drop (Int.toNat b)) (wi0 .i64 (d - 1))).bind fun k => (if (!(iB j k)) then ((kM (a.drop (Int.toNat b)) d).bind fun l => ((kM a c).bind fun m => some ((a.set (Int.toNat c) l), (wi0 .i64 (c + 1))))) else some (a, c)))) : Option ((List ByteArray) × Int)).bind fun (g, i) => (jX b h g i (wi0 .i64 (d + 1)))) else some (a, c))
def jW (a0 : List ByteArray) : Nat → Int → Option (List ByteArray)
 | 0, _ => none
 | d + 1, a => (if (decide (a < (a0.length : Int))) then ((kM a0 a).bind fun g => ((kM a0 (wi0 .i64 (a - 1))).bind fun h => (if (iB g h) then ((mK (decide (0 ≤ a) && decide (a ≤ (a0.length : Int)))).bind fun _ => ((jX a jq a0 a 1).bind fun (c, b) => ((mK (decide (0 ≤ b) && decide (b ≤ (c.length : Int)))).bind fun _ => ((mK (decide (0 ≤ b) && decide (b ≤ ((lR c (Int.toNat b) zS).length : Int)))).bind fun _ => some ((lR c (Int.toNat b) zS).take (Int.toNat b)))))) else (jW a0 d (wi0 .i64 (a + 1)))))) else some a0)
def lA (a0 : List ByteArray) : Option (List ByteArray) :=
 (if (decide ((a0.length : Int) < 2)) then some a0 else jW a0 jq 1)
def nE  : List ByteArray → (List ByteArray) → Option (List ByteArray)
 | [], a => ((xu a).bind fun g => ((lA g).bind fun h => some h))
 | i :: b, a => ((mw i).bind fun d => (if d then ((jw 16 a ([i])).bind fun c => (nE b c)) else (nE b a)))
def oN (a0 : List ByteArray) : Option (List ByteArray) :=
 nE a0 ([])
def mU  : List gG → (List ByteArray) → Option (List ByteArray)
 | [], b => ((oN b).bind fun d => some d)
 | a :: g, b => ((jw 16 b ([a.ib, a.Head.gU, a.B.gU, a.C.gU])).bind fun c => (mU g c))
def re (a0 : List gG) : Option (List ByteArray) :=
 mU a0 ([])
def ko (f1 : ByteArray → Option Bool) : List ByteArray → Nat → Option Int
 | [], _ => some (-1)
 | c :: a, i35 => ((f1 c).bind fun b => (if b then some (i35 : Int) else (ko f1 a (i35 + 1))))
def nP (a0 : List ByteArray) (f1 : ByteArray → Option Bool) : Option Int :=
 ko f1 a0 0
def mY (a0 : List ByteArray) (f1 : ByteArray → Option Bool) : Option Bool :=
 ((nP a0 f1).bind fun a => some (decide (a ≥ 0)))
def nH (a0 : ByteArray) (a : (gH × ByteArray) → Option Bool) (c1 : gG) (c2 : ByteArray) : Option Bool :=
 ((a (c1.B, a0)).bind fun d => ((if d then ((a ((⟨a0, c1.iv⟩ : gH), c2)).bind fun b => some b) else some false).bind fun c => some c))
def qG (a0 : gG) (f1 : (gH × ByteArray) → Option Bool) (a2 : List ByteArray) (a3 : ByteArray) : Option Bool :=
 (if (a0.Kind == 1) then some (iB a0.ib a3) else (if (a0.Kind == 2) then ((f1 (a0.B, a3)).bind fun a => some a) else (if (a0.Kind == 4) then ((f1 (a0.B, a3)).bind fun b => ((if b then ((f1 (a0.C, a3)).bind fun c => some c) else some false).bind fun g => some g)) else ((mY a2 (fun (x : ByteArray) => nH x f1 a0 a3)).bind fun d => some d))))
def lZ (a0 : gG) (f1 : (gH × ByteArray) → Option Bool) (d : List ByteArray) : List ByteArray → (List gI) → Option (List gI)
 | [], a => some a
 | c :: b, a => ((qG a0 f1 d c).bind fun h => (if h then ((jw 48 a ([(⟨a0.Head, c⟩ : gI)])).bind fun g => (lZ a0 f1 d b g)) else (lZ a0 f1 d b a)))
def nD (a0 : gG) (f1 : (gH × ByteArray) → Option Bool) (a2 : List ByteArray) : Option (List gI) :=
 ((my a0).bind fun c => ((if (!c) then some true else some false).bind fun d => (if d then some [] else ((oN a2).bind fun a => (((if (a0.Kind == 1) then some ([a0.ib]) else some a) : Option (List ByteArray)).bind fun b => lZ a0 f1 a b ([]))))))
def og (a0 : gH) (a : ByteArray) (b : List (gI × Bool)) : Option Bool :=
 some (jh iy b (⟨a0, a⟩ : gI) false)
def lb (d : gG) (i : gI) : List gI → (List iu) → (List (gI × Bool)) → Option ((((List iu) × Bool) ⊕ ((List iu) × (List (gI × Bool)))) ⊕ ((List iu) × (List (gI × Bool))))
 | [], b, a => some (Sum.inr (b, a))
 | c :: g, b, a => (if (jh iy a c false) then (lb d i g b a) else ((jw 184 b ([(⟨d, c⟩ : iu)])).bind fun h => (if (iy c i) then some (Sum.inl (Sum.inl (h, true))) else (lb d i g h (ji iy a c true)))))
def lY (k : List ByteArray) (l : gI) : List gG → (List iu) → (List (gI × Bool)) → Option (((List iu) × Bool) ⊕ ((List iu) × (List (gI × Bool))))
 | [], b, a => some (Sum.inr (b, a))
 | c :: d, b, a => ((nD c (fun (x : (gH × ByteArray)) => og x.1 x.2 a) k).bind fun j => ((lb c l j b a).bind fun s => match s with | .inl i => some i | .inr (g, h) => (lY k l d g h)))
def mg (j : List ByteArray) (k : gI) (l : List gG) : Nat → (List iu) → Int → (List (gI × Bool)) → Option ((List iu) × Bool)
 | 0, _, _, _ => none
 | g + 1, a, i, b => (if (decide (i < (a.length : Int))) then ((lY j k l a b).bind fun s => match s with | .inl h => some h | .inr (c, d) => (mg j k l g c (a.length : Int) d)) else some ([], false))
def pN (a0 : List gG) (b : gI) : Option ((List iu) × Bool) :=
 ((nl a0).bind fun c => ((re a0).bind fun a => mg a b c jq ([]) (-1) ([])))
def nh  : List iu → (List gI) → Option (List gI)
 | [], a => some a
 | d :: c, a => ((jw 48 a ([d.gI])).bind fun b => (nh c b))
def pK (a0 : List iu) : Option (List gI) :=
 nh a0 ([])
def lQ (c : gI) : List gI → Nat → Option Int
 | [], _ => some (-1)
 | b :: a, i46 => (if (iy c b) then some (i46 : Int) else (lQ c a (i46 + 1)))
def pZ (a0 : List gI) (a : gI) : Option Int :=
 lQ a a0 0
def ni (a0 : List gI) (a : gI) : Option Bool :=
 ((pZ a0 a).bind fun b => some (decide (b ≥ 0)))
def kI (c : gI) : List gI → Nat → Option Int
 | [], _ => some (-1)
 | b :: a, i46 => (if (iy c b) then some (i46 : Int) else (kI c a (i46 + 1)))
def oC (a0 : List gI) (a : gI) : Option Int :=
 kI a a0 0
def lT (a0 : List gI) (a : gI) : Option Bool :=
 ((oC a0 a).bind fun b => some (decide (b ≥ 0)))
def na (a0 : List gI) (a : gH) (a2 : ByteArray) : Option Bool :=
 ((lT a0 (⟨a, a2⟩ : gI)).bind fun b => some b)
def jZ (f1 : gI → Option Bool) : List gI → Nat → Option Int
 | [], _ => some (-1)
 | c :: a, i35 => ((f1 c).bind fun b => (if b then some (i35 : Int) else (jZ f1 a (i35 + 1))))
def nq (a0 : List gI) (f1 : gI → Option Bool) : Option Int :=
 jZ f1 a0 0
def kU (a0 : List gI) (f1 : gI → Option Bool) : Option Bool :=
 ((nq a0 f1).bind fun a => some (decide (a ≥ 0)))
def ny (a0 : gI) (b : gH) (c1 : List gI) (c2 c : ByteArray) : Option Bool :=
 ((if (gO a0.gH b) then ((na c1 (⟨a0.ib, c2⟩ : gH) c).bind fun a => some a) else some false).bind fun d => some d)
def qt (a0 : List gI) (b : gH) (a2 a3 : ByteArray) : Option Bool :=
 ((kU a0 (fun (x : gI) => ny x b a0 a2 a3)).bind fun a => some a)
def oP (a0 : iu) (a : List gI) : Option Bool :=
 ((my a0.gG).bind fun b => ((if (!b) then some true else some (!(gO a0.gI.gH a0.gG.Head))).bind fun i => (if i then some false else (if (a0.gG.Kind == 1) then some (iB a0.gG.ib a0.gI.ib) else (if (a0.gG.Kind == 2) then ((na a a0.gG.B a0.gI.ib).bind fun c => some c) else (if (a0.gG.Kind == 3) then ((qt a a0.gG.B a0.gG.iv a0.gI.ib).bind fun d => some d) else ((na a a0.gG.B a0.gI.ib).bind fun g => ((if g then ((na a a0.gG.C a0.gI.ib).bind fun h => some h) else some false).bind fun j => some j))))))))
def mI (c : List gI) : List iu → Nat → Option Bool
 | [], _ => some true
 | d :: a, i98 => ((mK (decide (0 ≤ (i98 : Int)) && decide ((i98 : Int) ≤ (c.length : Int)))).bind fun _ => ((oP d (c.take (Int.toNat (i98 : Int)))).bind fun b => (if (!b) then some false else (mI c a (i98 + 1)))))
def pz (a0 : List iu) : Option Bool :=
 ((pK a0).bind fun a => mI a a0 0)
def lI (a0 : List iu) : Option (List iu) :=
 ((jw 184 ([]) a0).bind fun a => some a)
def mz (a0 : List iu) (a a2 : Int) : Option (List iu) :=
 ((mK (decide (0 ≤ a ∧ a ≤ a2 ∧ a2 ≤ (a0.length : Int) ∧ (a0.length : Int) ≤ (a0.length : Int)))).bind fun _ => (if (a == a2) then some a0 else ((mK (decide (0 ≤ a) && decide (a ≤ (a0.length : Int)))).bind fun _ => ((mK (decide (0 ≤ a2) && decide (a2 ≤ (a0.length : Int)))).bind fun _ => ((mK (decide ((Int.toNat a) ≤ (Int.toNat a2) ∧ (Int.toNat a2) ≤ a0.length))).bind fun b => ((mK (decide (0 ≤ ((a0.take (Int.toNat a) ++ a0.drop (Int.toNat a2)).length : Int) ∧ ((a0.take (Int.toNat a) ++ a0.drop (Int.toNat a2)).length : Int) ≤ (a0.length : Int) ∧ (a0.length : Int) = ((s8 a0 (Int.toNat a) (Int.toNat a2)).length : Int) ∧ ((a0.take (Int.toNat a) ++ a0.drop (Int.toNat a2)).length : Int) = ((a0.take (Int.toNat a) ++ a0.drop (Int.toNat a2)).length : Int)))).bind fun _ => some ((lR (s8 a0 (Int.toNat a) (Int.toNat a2)) (Int.toNat ((a0.take (Int.toNat a) ++ a0.drop (Int.toNat a2)).length : Int)) (⟨(⟨0, (⟨zS, zS⟩ : gH), zS, (⟨zS, zS⟩ : gH), (⟨zS, zS⟩ : gH), zS⟩ : gG), (⟨(⟨zS, zS⟩ : gH), zS⟩ : gI)⟩ : iu)).take (a0.take (Int.toNat a) ++ a0.drop (Int.toNat a2)).length)))))))
def ng (a0 : List iu) : Nat → Int → Option (Bool ⊕ Unit)
 | 0, _ => none
 | b + 1, a => (if (decide (a < (if 0 > (wi0 .i64 ((a0.length : Int) - 1)) then 0 else (wi0 .i64 ((a0.length : Int) - 1))))) then ((lI a0).bind fun c => ((mz c a (wi0 .i64 (a + 1))).bind fun d => ((pz d).bind fun g => (if g then some (Sum.inl false) else (ng a0 b (wi0 .i64 (a + 1))))))) else some (Sum.inr ()))
def mX (h : List gI) (a0 : List iu) : List gI → Nat → Option Bool
 | [], _ => ((pz a0).bind fun d => (if (!d) then some false else ((ng a0 jq 0).bind fun s => match s with | .inl b => some b | .inr _ => some true)))
 | g :: a, i100 => ((mK (decide (0 ≤ (i100 : Int)) && decide ((i100 : Int) ≤ (h.length : Int)))).bind fun _ => ((ni (h.take (Int.toNat (i100 : Int))) g).bind fun c => (if c then some false else (mX h a0 a (i100 + 1)))))
def rc (a0 : List iu) : Option Bool :=
 ((pK a0).bind fun a => mX a a0 a 0)
def mG  : List iu → (List gI) → Option Bool
 | [], a => some true
 | d :: g, a => ((oP d a).bind fun c => (if (!c) then some false else ((jw 48 a ([d.gI])).bind fun b => (mG g b))))
def qM (a0 : List iu) : Option Bool :=
 mG a0 ([])
def kC  : Nat → (List iu) → Int → Option (List iu)
 | 0, _, _ => none
 | g + 1, b, a => (if (decide (a ≥ 0)) then ((((lI b).bind fun h => ((mz h a (wi0 .i64 (a + 1))).bind fun c => ((qM c).bind fun i => (if i then some c else some b)))) : Option (List iu)).bind fun d => (kC g d (wi0 .i64 (a - 1)))) else some b)
def lu  : Nat → (List iu) → Option (List iu)
 | 0, _ => none
 | c + 1, a => ((rc a).bind fun d => (if (!d) then ((kC jq a (wi0 .i64 ((a.length : Int) - 2))).bind fun b => (lu c b)) else some a))
def pc (a0 : List iu) : Option (List iu) :=
 lu jq a0
def qp (a0 : List gG) (c : gI) : Option ((List iu) × Bool) :=
 ((pN a0 c).bind fun b => (if (!b.2) then some ([], false) else ((pc b.1).bind fun a => some (a, true))))
def nV (a : List gH) : List gH → Bool → gH → Option (Bool × gH)
 | [], c, d => some (c, d)
 | b :: g, c, d => ((nC b).bind fun h => ((if h then ((if ((a.length : Int) == 0) then some true else ((kM a (wi0 .i64 ((a.length : Int) - 1))).bind fun o => ((ow o b).bind fun j => some j))).bind fun n => some n) else some false).bind fun k => ((if k then ((if (!c) then some true else ((ow b d).bind fun i => some i)).bind fun m => some m) else some false).bind fun l => (if l then (nV a g true b) else (nV a g c d)))))
def qE (a0 : List gH) : Nat → (List gH) → Option (List gH)
 | 0, _ => none
 | c + 1, a => ((nV a a0 false (⟨zS, zS⟩ : gH)).bind fun (d, g) => (if (!d) then some a else ((jw 32 a ([g])).bind fun b => (qE a0 c b))))
def xC (a0 : List gH) : Option (List gH) :=
 qE a0 jq ([])
def mn (g : gH) : List gI → (List ByteArray) → Option (List ByteArray)
 | [], a => some a
 | d :: b, a => (if (gO d.gH g) then ((jw 16 a ([d.ib])).bind fun c => (mn g b c)) else (mn g b a))
def oM (a0 : List gI) (a : gH) : Option (List ByteArray) :=
 mn a a0 ([])
structure gT where
 gH : gH
 lG : Int
 lF : Int
 qW : Int
def gX (x : gT) : List Value := [.string x.gH.gU, .string x.gH.iz, .int .i64 x.lG, .int .i64 x.lF, .int .i64 x.qW]
def sL (x y : gT) : Bool := (gO x.gH y.gH) && ((x.lG == y.lG) && ((x.lF == y.lF) && ((x.qW == y.qW) && true)))
theorem Aw {x y : gT} : sL x y = true ↔ x = y := by
 cases x; cases y; simp [sL, iX, gP]
theorem pE (x : gT) : (gX x).length = 5 := rfl
theorem mj (x : gT) : ∀ u ∈ gX x, u.oneCell' = true := by
 intro u hu
 simp only [gX, aj, bR, dW] at hu
 rcases hu with rfl | rfl | rfl | rfl | rfl <;> rfl
def jG (a0 : List (gH × gT)) : Option Unit :=
 some ()
def jr (a0 a : gT) : Option Int :=
 ((po a0.gH a.gH).bind fun b => some b)
def ky (c : ((List (gH × (List (ByteArray × Bool)))) × (List gG) × (List (gH × (List gG))) × (List (ByteArray × (List gG))) × (List gI) × Int)) : List gH → Nat → (List (gH × gT)) → Option (List (gH × gT))
 | [], _, b => some b
 | a :: h, g, b => (((if ((g : Int) == 0) then some (⟨a, (wi0 .i64 (((jh gO b a (⟨(⟨zS, zS⟩ : gH), 0, 0, 0⟩ : gT)).lG) + 1)), (jh gO b a (⟨(⟨zS, zS⟩ : gH), 0, 0, 0⟩ : gT)).lF, (jh gO b a (⟨(⟨zS, zS⟩ : gH), 0, 0, 0⟩ : gT)).qW⟩ : gT) else some (⟨a, (jh gO b a (⟨(⟨zS, zS⟩ : gH), 0, 0, 0⟩ : gT)).lG, (wi0 .i64 (((jh gO b a (⟨(⟨zS, zS⟩ : gH), 0, 0, 0⟩ : gT)).lF) + 1)), (jh gO b a (⟨(⟨zS, zS⟩ : gH), 0, 0, 0⟩ : gT)).qW⟩ : gT)) : Option gT).bind fun d => ((js c.1 c.2.1 c.2.2.1 c.2.2.2.1 c.2.2.2.2.1 c.2.2.2.2.2 a).bind fun i => (ky c h (g + 1) (ji gO b a (⟨d.gH, d.lG, d.lF, (i.length : Int)⟩ : gT)))))
def lh (i : ((List (gH × (List (ByteArray × Bool)))) × (List gG) × (List (gH × (List gG))) × (List (ByteArray × (List gG))) × (List gI) × Int)) : List gG → (List (gH × gT)) → Option (List gT)
 | [], a => ((jG a).bind fun j => ((xq 56 (fun (x : (gT × gT)) => jr x.1 x.2) a).bind fun g => some g))
 | h :: b, a => ((qw h).bind fun d => ((ky i d 0 a).bind fun c => (lh i b c)))
def kx (a0 : List gG) : Option (List gT) :=
 ((nl a0).bind fun b => ((tp a0).bind fun a => lh a b ([])))
def lH  : List gT → gT → Option (gT × Bool)
 | [], a => some (a, true)
 | c :: b, a => (if (decide (c.lF > a.lF)) then (lH b c) else (lH b a))
def pH (a0 : List gG) : Option (gT × Bool) :=
 ((kx a0).bind fun a => (if ((a.length : Int) == 0) then some ((⟨(⟨zS, zS⟩ : gH), 0, 0, 0⟩ : gT), false) else ((kM a 0).bind fun b => ((mK (decide (0 ≤ 1) && decide (1 ≤ (a.length : Int)))).bind fun _ => lH (a.drop (Int.toNat 1)) b))))
def mZ  : List gG → (List ByteArray) → Option (List ByteArray)
 | [], b => ((oN b).bind fun d => some d)
 | a :: g, b => ((jw 16 b ([a.ib, a.Head.gU, a.B.gU, a.C.gU])).bind fun c => (mZ g c))
def sX (a0 : List gG) : Option (List ByteArray) :=
 mZ a0 ([])
def pI (a0 : gH) (a : ByteArray) (b : List (gI × Int)) : Option Bool :=
 some ((ij iy b (⟨a0, a⟩ : gI)).isSome)
def nf (b : Int) : List gI → (List (gI × Int)) → Option (List (gI × Int))
 | [], a => some a
 | d :: c, a => (if (!((ij iy a d).isSome)) then (nf b c (ji iy a d b)) else (nf b c a))
def oy (b : List (gI × Int)) (j : List ByteArray) (c : Int) : List gG → (List (gI × Int)) → Option (List (gI × Int))
 | [], a => some a
 | i :: d, a => ((nD i (fun (x : (gH × ByteArray)) => pI x.1 x.2 b) j).bind fun h => ((nf c h a).bind fun g => (oy b j c d g)))
def mS (g : List ByteArray) (h : List gG) : Nat → (List (gI × Int)) → Int → Option ((List (gI × Int)) × Int)
 | 0, _, _ => none
 | d + 1, a, c => ((oy a g c h a).bind fun b => (if ((b.length : Int) == (a.length : Int)) then some (b, c) else (mS g h d b (wi0 .i64 (c + 1)))))
def oJ (a0 : List gG) : Option ((List (gI × Int)) × Int) :=
 ((nl a0).bind fun c => ((nl a0).bind fun a => ((sX a).bind fun b => mS b c jq ([]) 0)))
def pr (a0 : List gG) (a : gI) : Option (Int × Bool) :=
 ((oJ a0).bind fun b => some ((jh iy b.1 a 0), (ij iy b.1 a).isSome))
def pq (a0 : List gG) : Option Int :=
 ((oJ a0).bind fun a => some a.2)
def kR (c : List (gH × Int)) : List gT → (List gH) → Option (List gH)
 | [], b => some b
 | a :: d, b => ((if (decide (a.lG > 0)) then some (a.lF == 0) else some false).bind fun h => ((if h then some ((jh gO c a.gH 0) == a.lG) else some false).bind fun i => (if i then ((jw 32 b ([a.gH])).bind fun g => (kR c d g)) else (kR c d b))))
def jO (a0 : List gG) : List gG → (List (gH × Int)) → Option (List gH)
 | [], a => ((kx a0).bind fun g => ((kR a g ([])).bind fun d => some d))
 | b :: c, a => (if (b.Kind == 1) then (jO a0 c (ji gO a b.Head (wi0 .i64 ((jh gO a b.Head 0) + 1)))) else (jO a0 c a))
def mf (a0 : List gG) : Option (List gH) :=
 ((nl a0).bind fun a => jO a0 a ([]))
def pM  : Option Bool :=
 ((kx ([(⟨2, (⟨(⟨#[97]⟩ : ByteArray), (⟨#[114]⟩ : ByteArray)⟩ : gH), zS, (⟨(⟨#[98]⟩ : ByteArray), (⟨#[115]⟩ : ByteArray)⟩ : gH), (⟨zS, zS⟩ : gH), zS⟩ : gG), (⟨1, (⟨(⟨#[98]⟩ : ByteArray), (⟨#[115]⟩ : ByteArray)⟩ : gH), (⟨#[100]⟩ : ByteArray), (⟨zS, zS⟩ : gH), (⟨zS, zS⟩ : gH), zS⟩ : gG)])).bind fun q => ((pH ([(⟨2, (⟨(⟨#[97]⟩ : ByteArray), (⟨#[114]⟩ : ByteArray)⟩ : gH), zS, (⟨(⟨#[98]⟩ : ByteArray), (⟨#[115]⟩ : ByteArray)⟩ : gH), (⟨zS, zS⟩ : gH), zS⟩ : gG), (⟨1, (⟨(⟨#[98]⟩ : ByteArray), (⟨#[115]⟩ : ByteArray)⟩ : gH), (⟨#[100]⟩ : ByteArray), (⟨zS, zS⟩ : gH), (⟨zS, zS⟩ : gH), zS⟩ : gG)])).bind fun a => ((pr ([(⟨2, (⟨(⟨#[97]⟩ : ByteArray), (⟨#[114]⟩ : ByteArray)⟩ : gH), zS, (⟨(⟨#[98]⟩ : ByteArray), (⟨#[115]⟩ : ByteArray)⟩ : gH), (⟨zS, zS⟩ : gH), zS⟩ : gG), (⟨1, (⟨(⟨#[98]⟩ : ByteArray), (⟨#[115]⟩ : ByteArray)⟩ : gH), (⟨#[100]⟩ : ByteArray), (⟨zS, zS⟩ : gH), (⟨zS, zS⟩ : gH), zS⟩ : gG)]) (⟨(⟨(⟨#[97]⟩ : ByteArray), (⟨#[114]⟩ : ByteArray)⟩ : gH), (⟨#[100]⟩ : ByteArray)⟩ : gI)).bind fun b => ((if ((q.length : Int) == 2) then ((kM q 1).bind fun p => some (sL p (⟨(⟨(⟨#[98]⟩ : ByteArray), (⟨#[115]⟩ : ByteArray)⟩ : gH), 1, 1, 1⟩ : gT))) else some false).bind fun h => ((if h then some a.2 else some false).bind fun i => ((if i then some (gO a.1.gH (⟨(⟨#[98]⟩ : ByteArray), (⟨#[115]⟩ : ByteArray)⟩ : gH)) else some false).bind fun j => ((if j then some b.2 else some false).bind fun k => ((if k then some (b.1 == 1) else some false).bind fun l => ((if l then ((pq ([(⟨2, (⟨(⟨#[97]⟩ : ByteArray), (⟨#[114]⟩ : ByteArray)⟩ : gH), zS, (⟨(⟨#[98]⟩ : ByteArray), (⟨#[115]⟩ : ByteArray)⟩ : gH), (⟨zS, zS⟩ : gH), zS⟩ : gG), (⟨1, (⟨(⟨#[98]⟩ : ByteArray), (⟨#[115]⟩ : ByteArray)⟩ : gH), (⟨#[100]⟩ : ByteArray), (⟨zS, zS⟩ : gH), (⟨zS, zS⟩ : gH), zS⟩ : gG)])).bind fun g => some (g == 2)) else some false).bind fun m => ((if m then ((mf ([(⟨2, (⟨(⟨#[97]⟩ : ByteArray), (⟨#[114]⟩ : ByteArray)⟩ : gH), zS, (⟨(⟨#[98]⟩ : ByteArray), (⟨#[115]⟩ : ByteArray)⟩ : gH), (⟨zS, zS⟩ : gH), zS⟩ : gG), (⟨1, (⟨(⟨#[98]⟩ : ByteArray), (⟨#[115]⟩ : ByteArray)⟩ : gH), (⟨#[100]⟩ : ByteArray), (⟨zS, zS⟩ : gH), (⟨zS, zS⟩ : gH), zS⟩ : gG)])).bind fun d => some ((d.length : Int) == 0)) else some false).bind fun n => ((if n then ((mK (decide (0 ≤ 1) && decide (1 ≤ (([(⟨2, (⟨(⟨#[97]⟩ : ByteArray), (⟨#[114]⟩ : ByteArray)⟩ : gH), zS, (⟨(⟨#[98]⟩ : ByteArray), (⟨#[115]⟩ : ByteArray)⟩ : gH), (⟨zS, zS⟩ : gH), zS⟩ : gG), (⟨1, (⟨(⟨#[98]⟩ : ByteArray), (⟨#[115]⟩ : ByteArray)⟩ : gH), (⟨#[100]⟩ : ByteArray), (⟨zS, zS⟩ : gH), (⟨zS, zS⟩ : gH), zS⟩ : gG)]).length : Int)))).bind fun _ => ((mf (([(⟨2, (⟨(⟨#[97]⟩ : ByteArray), (⟨#[114]⟩ : ByteArray)⟩ : gH), zS, (⟨(⟨#[98]⟩ : ByteArray), (⟨#[115]⟩ : ByteArray)⟩ : gH), (⟨zS, zS⟩ : gH), zS⟩ : gG), (⟨1, (⟨(⟨#[98]⟩ : ByteArray), (⟨#[115]⟩ : ByteArray)⟩ : gH), (⟨#[100]⟩ : ByteArray), (⟨zS, zS⟩ : gH), (⟨zS, zS⟩ : gH), zS⟩ : gG)]).drop (Int.toNat 1))).bind fun c => some ((c.length : Int) == 1))) else some false).bind fun o => some o)))))))))))
def s6 (a0 : gG) : Option (List gH) :=
 ((oG a0).bind fun a => (if (!a) then some [] else (if (a0.Kind == 1) then some [a0.Head] else (if (a0.Kind == 4) then some [a0.Head, a0.B, a0.C] else some [a0.Head, a0.B]))))
def lk (b : gH) : List gG → gT → Option gT
 | [], a => some a
 | c :: h, a => (((if (gO c.Head b) then some (⟨a.gH, (wi0 .i64 (a.lG + 1)), a.lF, a.qW⟩ : gT) else some a) : Option gT).bind fun d => ((((if (decide (c.Kind > 1)) then some (gO c.B b) else some false).bind fun j => (if j then some (⟨d.gH, d.lG, (wi0 .i64 (d.lF + 1)), d.qW⟩ : gT) else some d)) : Option gT).bind fun g => ((if (c.Kind == 4) then some (gO c.C b) else some false).bind fun i => (if i then (lk b h (⟨g.gH, g.lG, (wi0 .i64 (g.lF + 1)), g.qW⟩ : gT)) else (lk b h g)))))
def nv (j : List gI) (l : List gG) : List gH → (List gT) → Option (List gT)
 | [], a => some a
 | b :: c, a => ((((oM j b).bind fun g => some ((⟨b, 0, 0, (g.length : Int)⟩ : gT), (⟨(⟨zS, zS⟩ : gH), 0, 0, 0⟩ : gT))) : Option (gT × gT)).bind fun (h, k) => ((lk b l h).bind fun i => ((jw 56 a ([i])).bind fun d => (nv j l c d))))
def mi (g : List gI) (k : List gG) : List gG → (List gH) → Option (List gT)
 | [], a => ((xC a).bind fun i => ((nv g k i ([])).bind fun b => some b))
 | j :: c, a => ((s6 j).bind fun h => ((jw 32 a h).bind fun d => (mi g k c d)))
def uB (a0 : List gG) : Option (List gT) :=
 ((nT a0).bind fun b => ((vB a0).bind fun a => mi a b b ([])))
def nK (c : List gI) (a : gG) (n : List ByteArray) : List ByteArray → (List gI) → Option (List gI)
 | [], b => some b
 | d :: g, b => ((qm c a n d).bind fun i => ((if i then ((nm c a.Head d).bind fun k => some (!k)) else some false).bind fun l => ((if l then ((nm b a.Head d).bind fun j => some (!j)) else some false).bind fun m => (if m then ((jw 48 b ([(⟨a.Head, d⟩ : gI)])).bind fun h => (nK c a n g h)) else (nK c a n g b)))))
def lE (b : List gI) (h : List ByteArray) : List gG → (List gI) → Option (List gI)
 | [], a => some a
 | g :: c, a => ((nK b g h h a).bind fun d => (lE b h c d))
def jS (i : List ByteArray) (j : List gG) : Nat → (List gI) → (List (List gI)) → Option (List (List gI))
 | 0, _, _ => none
 | h + 1, b, c => ((lE b i j ([])).bind fun a => (if ((a.length : Int) == 0) then some c else ((jw 24 c ([a])).bind fun d => ((jw 48 b a).bind fun g => (jS i j h g d)))))
def qK (a0 : List gG) : Option (List (List gI)) :=
 ((nT a0).bind fun b => ((pJ b).bind fun a => jS a b jq ([]) ([])))
def kl (a0 : List gG) (m : gI) : List gT → Int → Option Bool
 | [], c => ((qp a0 m).bind fun a => ((pr a0 m).bind fun b => ((nT a0).bind fun d => ((if (c == (d.length : Int)) then some (a.2 == b.2) else some false).bind fun h => ((if h then ((if (!a.2) then some true else ((if (decide ((a.1.length : Int) ≥ (wi0 .i64 (b.1 + 1)))) then ((pq a0).bind fun g => some (decide (g > b.1))) else some false).bind fun k => some k)).bind fun j => some j) else some false).bind fun i => some i)))))
 | n :: l, c => (kl a0 m l (wi0 .i64 (c + n.lG)))
def oK (a0 : List gG) (a : gI) : Option Bool :=
 (pM.bind fun d => (if (!d) then some false else ((s9 a0).bind fun g => ((if (decide (g > 1000)) then some true else some (decide ((wi0 .i64 ((wi0 .i64 ((a.ib.size : Int) + (a.gH.gU.size : Int))) + (a.gH.iz.size : Int))) > 200))).bind fun c => (if c then some true else ((kx a0).bind fun b => kl a0 a b 0))))))
end
end Go.Proofs.YtbnbdigcbldfhaaGreat
