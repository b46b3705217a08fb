/- a part of a proof of LintTexts -/
import Derived.Test.YtjjjihkifgdhgaaGreatDoorRtWk
import Derived.Lib.ItoaNum
import Derived.Recover
import Derived.LaidEqlPtr
import Derived.RangeFuncRecord
import Derived.Lib.AppendStr
import Derived.Lib.Builder
import Derived.Lib.UnsafeStr
import Derived.Shelf.SlSortCmp.NoneTotal
import Derived.Shelf.SortM.Plain
import Derived.Shelf.SortM.SortNone
import Derived.Shelf.SlIter.Sorted
import Derived.Shelf.SlIter.Nil
import Derived.Shelf.Strconv.Itoa3
import Derived.Test.YtjjjihkifgdhgaaGreatDoorProg
import Derived.KernelRfl
set_option linter.all false
namespace Go.Proofs.YtjjjihkifgdhgaaGreatDoor
open Go.IntKind renaming wrap → wi0
open Go.RowKit
variable [M : Md]
theorem bS {α β : Type} {m : Option α} {f : α → Option β} {r : β} {G : Prop} (h : m.bind f = some r) (k : ∀ x, m = some x → f x = some r → G) : G :=
 let ⟨x, a, b⟩ := bind_some h
 k x a b
theorem sj {α : Type} {a b : α} (h : some a = some b) : a = b := fG h
theorem bC {α : Type} {b : Bool} {x y r : α} {G : Prop} (h : (if b = true then x else y) = r) (c : b = true → x = r → G) (k2 : b = false → y = r → G) : G := by
 rcases Jr b with e | e
 ·exact c e (Nu e h)
 ·exact k2 e (Ny e h)
theorem cB {a b : Bool} (h : a = b) : Value.bool a = Value.bool b := bA Value.bool h
theorem nb {a b : Nat} (h : Nat.ble a b = true := by exact rfl) : a ≤ b := Nat.le_of_ble_eq_true h
def Pv : Nat → Nat → List Bool
 | 0, _ => []
 | n + 1, m => (m % 2 == 1) :: Pv n (m / 2)
def bm (n m : Nat) : Array Bool := (Pv n m).toArray
section
variable {P : Program} {n : Nat} {Q : oP} {E : Nat → Value} {W : World}
theorem CI {α : Type} {co : Operand} {b : Bool} {x y : Code} {A B r : α} (hm : (if b = true then A else B) = r) (c : je E co = .bool b) (g : b = true → A = r → CW P n x Q E W) (d : b = false → B = r → CW P n y Q E W) : CW P n (.cond co x y) Q E W :=
 IL c (fun e => g e (Nu e hm)) (fun e => d e (Ny e hm))
theorem CJ {c ρ : Type} {m : Option c} {k : c → Option ρ} {r : ρ} {x : Code} {K : (Nat → Value) → World → Prop} (hm : m.bind k = some r) (I : c → (Nat → Value) → World → Prop) (h1 : ∀ s, m = some s → CW P n x (oZ (I s) Q) E W) (d : ∀ s E W, I s E W → k s = some r → K E W) : CW P n x (oZ K Q) E W :=
 let ⟨s, a, b⟩ := bind_some hm
 J3 (I s) (h1 s a) (fun E W h => d s E W h b)
theorem P7 {d ρ c : Type} {m : Option (c ⊕ d)} {k : c ⊕ d → Option ρ} {r : ρ} {x : Code} {K : (Nat → Value) → World → Prop} (hm : m.bind k = some r) (I : d → (Nat → Value) → World → Prop) (h1 : ∀ s, m = some s → k s = some r → CW P n x (oZ (fun E W => ∃ t, s = .inr t ∧ I t E W) Q) E W) (g : ∀ s E W, I s E W → k (.inr s) = some r → K E W) : CW P n x (oZ K Q) E W :=
 let ⟨s, a, b⟩ := bind_some hm
 J3 (fun E W => ∃ t, s = .inr t ∧ I t E W) (h1 s a b) (fun E W ⟨t, e, h⟩ => g t E W h (by subst e; exact b))
theorem LJ {c ρ : Type} {m : Option c} {k : c → Option ρ} {r : ρ} {ops : Array Oper} {rest : List Oper} (hm : m.bind k = some r) (I : c → (Nat → Value) → World → Prop) (j : Nat) (d : ∀ s E W, I s E W → k s = some r → LW P n ops Q (rest.drop j) E W) (h1 : ∀ s, m = some s → (∀ E W, I s E W → LW P n ops Q (rest.drop j) E W) → LW P n ops Q rest E W) : LW P n ops Q rest E W :=
 let ⟨s, a, b⟩ := bind_some hm
 h1 s a (fun E W h => d s E W h b)
theorem PJ {c ρ : Type} {m : Option c} {k : c → Option ρ} {r : ρ} {ops : Array Oper} {S : Array Bool → World → Prop} {fuel : Nat} {listed : Array Bool} (hm : m.bind k = some r) (I : c → (Nat → Value) → World → Prop) (g : Array Bool) (d : Nat) (i : ∀ s E W, I s E W → k s = some r → PX P n ops Q S d g E W) (h1 : ∀ s, m = some s → (∀ E W, I s E W → PX P n ops Q S d g E W) → PX P n ops Q S fuel listed E W) : PX P n ops Q S fuel listed E W :=
 let ⟨s, a, b⟩ := bind_some hm
 h1 s a (fun E W h => i s E W h b)
theorem cF (n : Nat) {f : FuncId} {fn : Func} {c : Code} {args : List Value} {w : World} {R : Ending → World → Prop} (b : P.funcs[f]? = some fn) (d : fn.body = some c) (h : @CW yy P n c (uL P fn R) (zf args) w) (i : fn.ntmps = n := by exact rfl) (g : args.length ≤ n := by exact nb) : Calls P f args.toArray w R := uX b d i g h
end
section
variable {dd : Bool} {P : Program} {fn : Func} {E : Nat → Value} {W w : World} {μ : jx} {L : List (Nat × Obj)}
theorem rP {t : Tmp} {v : Value} (b : ST dd lG w W μ L) (c : fn.results = #[.tmp t] := by exact rfl) (d : E t = v := by exact rfl) : uL P fn (fun e W' => e = .returned v ∧ Ex dd w W') .ret E W := kv c d ⟨rfl, b.ex⟩
end
theorem ST.NE {dd : Bool} {F : Nat → Prop} {w W : World} {μ : jx} {x : Nat × Obj} {L : List (Nat × Obj)} (h : ST dd F w W μ (x :: L)) : ST dd F w W μ ([x] ++ L) := h
theorem ST.Nw {dd : Bool} {F : Nat → Prop} {w W : World} {μ : jx} {L : List (Nat × Obj)} (h : ST dd F w W μ L) : ST dd F w W μ ([] ++ L) := h
theorem aL {E : Nat → Value} {ax : Array Operand} {l : List Value} (h : ax.toList.map (je E) = l) : ax.map (je E) ++ (#[] : Array Value) = l.toArray := by subst h; apply Array.ext'; simp
section
variable {dd : Bool}
variable {P : Program} {E : Nat → Value} {W : World} {d : Option Nat} {ty : TypeId} {pos : String} {af : Array Edge} {g : Option (Nat × Bool)}
 {F : Nat → Prop} {w : World} {μ : jx} {L : List (Nat × Obj)}
variable {f : FuncId} {fv : Operand} {ax : Array Operand} {ats : Array TypeId} {args : List Value} {v : Value} {K : Value → World → Prop}
theorem Eg (b : ST dd F w W μ L) (he : ∀ args w, (callFunc f args).run P w = .ok (.enter f args) w) (c : jO dd P f args W v) (h : ∀ W', ST dd F w W' μ L → K v W') (i : je E fv = .func (.func f) #[] #[] := by exact rfl) (ha : ax.toList.map (je E) = args := by exact rfl) : ma P E ⟨d, .call ⟨.value fv, ax, ats⟩, ty, pos, af, g⟩ W K := Ni b i he (aL ha) c h
theorem sI {α : Type} {e : TypeId} {enc : α → List Value} {k : Nat} {l : List α} {Y : List (Nat × Obj)} (b : ST dd F w W μ Y) (he : ∀ args w, (callFunc f args).run P w = .ok (.enter f args) w) (c : lJ dd P f args W e enc k l) (h : ∀ W' v μ' R, ST dd F w W' μ' (R ++ Y) → jC μ μ' → Lo F w μ μ' → jw e enc k v l R → K v W') (i : je E fv = .func (.func f) #[] #[] := by exact rfl) (ha : ax.toList.map (je E) = args := by exact rfl) : ma P E ⟨d, .call ⟨.value fv, ax, ats⟩, ty, pos, af, g⟩ W K := IH _ b i he (aL ha) c h
theorem FX {K' : Value → List (Nat × Obj) → World → Prop} {L0 L2 : List (Nat × Obj)} (i : ST dd F w W μ L) (j : L.Perm (L0 ++ L2)) (he : ∀ args w, (callFunc f args).run P w = .ok (.enter f args) w) (l : BU L0 W → (L0.map (·.1)).Nodup → jC μ (rU W L0) → (∀ b o, (b, o) ∈ L2 → rU W L0 b = some o) → kw dd P f args W L0 K') (h : ∀ W' v μ' L1, ST dd F w W' μ' (L1 ++ L2) → jC μ μ' → Lo F w μ μ' → (∀ b, W.heap.size ≤ b → ∀ o, rU W' L1 b = some o → μ' b = some o) → K' v L1 W' → K v W') (m : je E fv = .func (.func f) #[] #[] := by exact rfl) (ha : ax.toList.map (je E) = args := by exact rfl) : ma P E ⟨d, .call ⟨.value fv, ax, ats⟩, ty, pos, af, g⟩ W K :=
 Nl L0 L2 i j m he (aL ha) (fun a b c d => by have := l a b c d; simpa using this) h
theorem P6 {K' : Value → List (Nat × Obj) → jx → Prop} {L0 L2 : List (Nat × Obj)} (i : ST dd F w W μ L) (j : L.Perm (L0 ++ L2)) (he : ∀ args w, (callFunc f args).run P w = .ok (.enter f args) w) (l : BU L0 W → (L0.map (·.1)).Nodup → jC μ (rU W L0) → (∀ b o, (b, o) ∈ L2 → rU W L0 b = some o) → lj dd P f args W μ L0 K') (h : ∀ W' v μ' L1, ST dd F w W' μ' (L1 ++ L2) → jC μ μ' → Lo F w μ μ' → K' v L1 μ' → K v W') (m : je E fv = .func (.func f) #[] #[] := by exact rfl) (ha : ax.toList.map (je E) = args := by exact rfl) : ma P E ⟨d, .call ⟨.value fv, ax, ats⟩, ty, pos, af, g⟩ W K :=
 LP L0 L2 i j m he (aL ha) (fun a b c d => by have := l a b c d; simpa using this) h
end
section
variable {E : Nat → Value} {x1 x2 x3 x4 x5 x6 x7 x8 : Operand} {v1 v2 v3 v4 v5 v6 v7 v8 : Value}
theorem Py (h1 : je E x1 = v1) : [x1].map (je E) = [v1] := by rw [← h1]; rfl
theorem PZ (h1 : je E x1 = v1) (b : je E x2 = v2) : [x1, x2].map (je E) = [v1, v2] := by rw [← h1, ← b]; rfl
end
end Go.Proofs.YtjjjihkifgdhgaaGreatDoor
namespace Go.Proofs.YtjjjihkifgdhgaaGreatDoor
open Go.IntKind renaming wrap → wi0
open Go.RowKit
def Qa (R : List (Nat × Obj)) (k : Nat) (p : Value) (i b : Nat) : Prop := ∃ g o, R = [(g, o)] ∧ p = .pointer (some ⟨g, i * k + b, none⟩)
theorem xv.f {R : List (Nat × Obj)} {k : Nat} {p : Value} {i : Nat} (h : xv R k p i) : Qa R k p i 0 := h
section
variable {P : Program} {E : Nat → Value} {W : World} {d : Option Nat} {ty : TypeId} {pos : String} {af : Array Edge} {g : Option (Nat × Bool)}
 {dd : Bool} {F : Nat → Prop} {w : World} {μ : jx} {L : List (Nat × Obj)} {α : Type} {e' : TypeId} {enc : α → List Value} {k : Nat} {v : Value} {l : List α} {R : List (Nat × Obj)}
theorem jw.put (h : jw e' enc k v l R) (hk : ∀ x, (enc x).length = k) {p : Value} {i : Nat} (hp : xv R k p i) {x0 : α} (s : l[i]? = some x0) (x1 : α) :
  ∃ g b, R = [(g, .cells b e' (0, 0))] ∧ p = .pointer (some ⟨g, i * k, none⟩) ∧ i * k + k ≤ b.size ∧ (∀ j y, (enc x0)[j]? = some y → b[i * k + j]? = some y) ∧
   jw e' enc k v (l.set i x1) [(g, .cells (b.toList.take (i * k) ++ enc x1 ++ b.toList.drop (i * k + k)).toArray e' (0, 0))] := by
 have n : i < l.length := (aY.1 s).1
 obtain ⟨q, b, cap, rfl, rfl, r, w, m, z, rfl, A⟩ := yx h hk hp s
 have hle : i * k + k ≤ cap * k := by
  have : (i + 1) * k ≤ cap * k := cI _ (by omega)
  rwa [cH, iM] at this
 have c : i * k + k ≤ l.length * k := by
  have : (i + 1) * k ≤ l.length * k := cI _ (by omega)
  rwa [cH, iM] at this
 have hlen : l.length * k ≤ cap * k := cI _ r
 refine ⟨q, b, rfl, rfl, by rw [m]; exact hle, A, .inr ⟨q, cap, _, by simp, rfl, by simpa using r, w, ?_, ?_⟩⟩
 ·show ((b.toList.take (i * k) ++ (enc x1) ++ b.toList.drop (i * k + k)).toArray).size = _
  have d : b.toList.length = cap * k := by simpa using m
  rw [dn, aC, aC, cP, fl, hk, d, dw (by omega)]; omega
 ·rw [gy, Dp hk l i x1 n, ← z]
  have t : (b.toList.take (l.length * k)).take (i * k) = b.toList.take (i * k) := by rw [fR]; congr 1; omega
  have u : (b.toList.take (l.length * k)).drop (i * k + k) = (b.toList.drop (i * k + k)).take (l.length * k - (i * k + k)) := by rw [gK]
  rw [t, u]
  show List.take (l.length * k) (b.toList.take (i * k) ++ enc x1 ++ b.toList.drop (i * k + k)) = _
  have d : b.toList.length = cap * k := by simpa using m
  have o : (b.toList.take (i * k) ++ enc x1).length = i * k + k := by rw [aC, cP, hk, d, dw (by omega)]
  rw [eG, du (by rw [o]; exact c), o]
end
variable [M : Md]
theorem oc {v : Value} (h : v.cells.toList.all Value.oneCell' = true := by exact rfl) : ∀ u ∈ v.cells.toList, u.oneCell' = true := dZ.1 h
theorem dc {p : Prop} [Decidable p] (h : p := by decide) : p := h
theorem kr {p : Prop} (h : p := by kernel_rfl) : p := h
theorem br {α : Sort _} {a b : α} (h : a = b := by rfl) : a = b := h
abbrev LO := List (Nat × Obj)
abbrev Ob (c : Array Value) (t : TypeId) : Obj := .cells c t (0, 0)
abbrev Ol (c : List Value) (t : TypeId) : Obj := .cells c.toArray t (0, 0)
theorem nI {P : Program} {t e : TypeId} {m k : Nat} {z : Value} {b : Array (Nat × Value)} {cs : Array Value} (j : P.underlying t = some (.slice e)) (i : ∀ w, (sizeOf e).run P w = .ok k w) (n : ∀ w, (zeroValue e).run P w = .ok z w) (hm : m * k ≤ 16777216 := by decide) (g : b.toList = (b.toList.map (·.2)).zipIdx.map (fun p => (p.2, p.1)) := by exact rfl) (l : (b.toList.map (·.2)).all (fun v => v.cells.size == k) = true := by exact rfl) (d : (b.toList.map (·.2)).length = m := by exact rfl) (c : ((b.toList.map (·.2)).flatMap (fun v => v.cells.toList)).toArray = cs := by exact rfl) (W : World) :
  (Instr.buildSlice t m b).run P W = .ok (.slice (some ⟨W.heap.size, 0, none⟩) m m) (W.alloc (.cells cs e (0, 0))) :=
 AK _ j i n hm g (fun v h => eq_of_beq (dZ.1 l v h)) d c W
section
variable {dd : Bool} {P : Program} {fn : Func} {E : Nat → Value} {W w : World} {μ : jx} {L L0 : List (Nat × Obj)}
theorem rQ {α : Type} {f : α → Value} {a r : α} {t : Tmp} (hm : some a = some r) (b : ST dd lG w W μ L) (c : fn.results = #[.tmp t] := by exact rfl) (d : E t = f a := by exact rfl) : uL P fn (fun e W' => e = .returned (f r) ∧ Ex dd w W') .ret E W := by
 obtain rfl := sj hm; exact kv c d ⟨rfl, b.ex⟩
theorem cG (n : Nat) {f : FuncId} {c : Code} {args : List Value} {v : Value} (b : P.funcs[f]? = some fn) (d : fn.body = some c) (h : ST dd lG w w (hp w) [] → @CW yy P n c (uL P fn (fun e j => e = .returned v ∧ Ex dd w j)) (zf args) w) (i : fn.ntmps = n := by exact rfl) (g : args.length ≤ n := by exact nb) : jO dd P f args w v := uX b d i g (h (ST.start w))
theorem uU {K : Value → List (Nat × Obj) → World → Prop} (n : Nat) {f : FuncId} {c : Code} {args : List Value} (b : P.funcs[f]? = some fn) (g : fn.body = some c) (h : ST dd lG w w (hp w) [] → @CW yy P n c (uL P fn (fun e d => ∃ v L1, e = .returned v ∧ rr dd [] L1 w d ∧ K v L1 d)) (zf args) w) (j : fn.ntmps = n := by exact rfl) (i : args.length ≤ n := by exact nb) : kw dd P f args w [] K := uX b g j i (h (ST.start w))
theorem xW {K : Value → List (Nat × Obj) → World → Prop} (g : nf μ L0 w) (n : Nat) {f : FuncId} {c : Code} {args : List Value} (b : P.funcs[f]? = some fn) (i : fn.body = some c) (h : ST dd (keys L0) w w μ L0 → @CW yy P n c (uL P fn (fun e d => ∃ v L1, e = .returned v ∧ rr dd L0 L1 w d ∧ K v L1 d)) (zf args) w) (l : fn.ntmps = n := by exact rfl) (j : args.length ≤ n := by exact nb) : kw dd P f args w L0 K := uX b i l j (h (ST.EA g))
theorem ud {K : Value → List (Nat × Obj) → jx → Prop} (g : nf μ L0 w) (n : Nat) {f : FuncId} {c : Code} {args : List Value} (b : P.funcs[f]? = some fn) (i : fn.body = some c) (h : ST dd (keys L0) w w μ L0 → @CW yy P n c (uL P fn (fun e d => ∃ v L1 μ1, e = .returned v ∧ rr dd L0 L1 w d ∧ jC μ μ1 ∧ Lo (keys L0) w μ μ1 ∧ jC μ1 (rU d L1) ∧ K v L1 μ1)) (zf args) w) (l : fn.ntmps = n := by exact rfl) (j : args.length ≤ n := by exact nb) : lj dd P f args w μ L0 K := uX b i l j (h (ST.EA g))
end
section
variable {dd : Bool}
variable {P : Program} {E : Nat → Value} {W : World} {d : Option Nat} {ty : TypeId} {pos : String} {af : Array Edge} {g : Option (Nat × Bool)}
 {F : Nat → Prop} {w : World} {μ : jx} {L : List (Nat × Obj)}
variable {f : FuncId} {fv : Operand} {ax : Array Operand} {ats : Array TypeId} {args : List Value} {v : Value} {K : Value → World → Prop}
theorem eM {K' : Value → List (Nat × Obj) → World → Prop} {L0 L2 : List (Nat × Obj)} (i : ST dd F w W μ L) (j : L.Perm (L0 ++ L2)) (he : ∀ args w, (callFunc f args).run P w = .ok (.enter f args) w) (l : nf (rU W L0) L0 W → jC μ (rU W L0) → kw dd P f args W L0 K') (h : ∀ W' v μ' L1, ST dd F w W' μ' (L1 ++ L2) → jC μ μ' → Lo F w μ μ' → (∀ b, W.heap.size ≤ b → ∀ o, rU W' L1 b = some o → μ' b = some o) → K' v L1 W' → K v W') (m : je E fv = .func (.func f) #[] #[] := by exact rfl) (ha : ax.toList.map (je E) = args := by exact rfl) : ma P E ⟨d, .call ⟨.value fv, ax, ats⟩, ty, pos, af, g⟩ W K :=
 FX i j he (fun a b c _ => l ⟨a, b, jC.refl _⟩ c) h m ha
theorem eD {K' : Value → List (Nat × Obj) → jx → Prop} {L0 L2 : List (Nat × Obj)} (i : ST dd F w W μ L) (j : L.Perm (L0 ++ L2)) (he : ∀ args w, (callFunc f args).run P w = .ok (.enter f args) w) (l : nf μ L0 W → lj dd P f args W μ L0 K') (h : ∀ W' v μ' L1, ST dd F w W' μ' (L1 ++ L2) → jC μ μ' → Lo F w μ μ' → K' v L1 μ' → K v W') (m : je E fv = .func (.func f) #[] #[] := by exact rfl) (ha : ax.toList.map (je E) = args := by exact rfl) : ma P E ⟨d, .call ⟨.value fv, ax, ats⟩, ty, pos, af, g⟩ W K :=
 P6 i j he (fun a b c _ => l ⟨a, b, c⟩) h m ha
end
def JC (op : BinOp) : Value → Value → Option Value
 | .int k a, .int k' b => if k = k' then Gf k op a b else none
 | _, _ => none
def Nx (i : Nat) : Value → Option Value
 | .tuple vs => vs[i]?
 | _ => none
def Gj : Value → Bool
 | .pointer (some ⟨_, _, none⟩) => true
 | _ => false
def OE (o : Nat) : Value → Value
 | .pointer (some ⟨b, k, none⟩) => .pointer (some ⟨b, k + o, none⟩)
 | v => v
theorem FR {v : Value} (h : Gj v = true) : ∃ b k, v = .pointer (some ⟨b, k, none⟩) := by
 unfold Gj at h; split at h
 ·exact ⟨_, _, rfl⟩
 ·cases h
section
variable {P : Program} {n : Nat} {Q : oP} {E : Nat → Value} {W : World} {ops : Array Oper} {rest : List Oper}
 {d j t : Nat} {want b : Bool} {v : Value} {ins : Go.Op} {ty : TypeId} {pos : String} {af : Array Edge} {A : Value → Prop} {x y : Operand}
theorem Wm (h : LW P n ops Q rest (nC E d (je E x)) W) (b : d < n := by decide) : LW P n ops Q (⟨some d, .move x, ty, pos, af, none⟩ :: rest) E W := V (jh rfl) h b
theorem Wa (h : LW P n ops Q rest (nC E d (je E x)) W) (b : d < n := by decide) : LW P n ops Q (⟨some d, .assign x, ty, pos, af, none⟩ :: rest) E W := V (oa rfl) h b
theorem Wh (c : je E x = v) (h : LW P n ops Q rest (nC E d v) W) (b : d < n := by decide) : LW P n ops Q (⟨some d, .move x, ty, pos, af, none⟩ :: rest) E W := V (jh c) h b
theorem Wg (c : je E x = v) (h : LW P n ops Q rest (nC E d v) W) (b : d < n := by decide) : LW P n ops Q (⟨some d, .assign x, ty, pos, af, none⟩ :: rest) E W := V (oa c) h b
theorem Wx {i : Nat} (b : Nx i (je E x) = some v) (h : LW P n ops Q rest (nC E d v) W) (c : d < n := by decide) : LW P n ops Q (⟨some d, .extract x i, ty, pos, af, none⟩ :: rest) E W := by
 unfold Nx at b; split at b
 ·rename_i vs e; exact V (Ca e b) h c
 ·cases b
theorem Wi {op : BinOp} {tx tv : TypeId} (c : JC op (je E x) (je E y) = some v) (h : LW P n ops Q rest (nC E d v) W) (j : d < n := by decide) : LW P n ops Q (⟨some d, .binOp op tx x y tv, ty, pos, af, none⟩ :: rest) E W := by
 unfold JC at c; split at c
 ·rename_i k a k' b g i
  split at c
  ·rename_i e; subst e; exact V (lA g i c) h j
  ·cases c
 ·cases c
theorem Wf {t : TypeId} {f off : Nat} (c : kI P t f off) (h : LW P n ops Q rest (nC E d (OE off (je E x))) W) (hp : Gj (je E x) = true := by exact rfl) (g : d < n := by decide) : LW P n ops Q (⟨some d, .fieldAddr t x f, ty, pos, af, none⟩ :: rest) E W := by
 obtain ⟨b, k, e⟩ := FR hp
 refine V (jm c e) ?_ g
 rw [e] at h; exact h
theorem Wn (h : LW P n ops Q rest (nC E d (je E x)) W) (hp : Gj (je E x) = true := by exact rfl) (c : d < n := by decide) : LW P n ops Q (⟨some d, .nilCheck x, ty, pos, af, none⟩ :: rest) E W := by
 obtain ⟨b, k, e⟩ := FR hp
 refine V (lR e) ?_ c
 rw [e] at h; exact h
theorem un (h : b = !want) (k : LW P n ops Q rest (nC E d undef) W) (g : (ops[j]?).bind (·.dst) = some t := by exact rfl) (c : E t = .bool b := by exact rfl) (l : t < n := by decide) (i : d < n := by decide) :
  LW P n ops Q (⟨some d, ins, ty, pos, af, some (j, want)⟩ :: rest) E W := Vn g (by rw [c, h]) k l i
theorem ug (h : b = want) (l : kH P E ⟨some d, ins, ty, pos, af, some (j, want)⟩ W v W) (k : LW P n ops Q rest (nC E d v) W) (g : (ops[j]?).bind (·.dst) = some t := by exact rfl) (c : E t = .bool b := by exact rfl) (m : t < n := by decide) (i : d < n := by decide) :
  LW P n ops Q (⟨some d, ins, ty, pos, af, some (j, want)⟩ :: rest) E W := Vg g (by rw [c, h]) l k m i
theorem uG (h : b = want) (k : ma P E ⟨some d, ins, ty, pos, af, some (j, want)⟩ W fun v W' => LW P n ops Q rest (nC E d v) W') (g : (ops[j]?).bind (·.dst) = some t := by exact rfl) (c : E t = .bool b := by exact rfl) (l : t < n := by decide) (i : d < n := by decide) :
  LW P n ops Q (⟨some d, ins, ty, pos, af, some (j, want)⟩ :: rest) E W := Kh g (by rw [c, h]) k l i
theorem Mc (h : b = want) (l : ∃ p, A p ∧ ∀ W, kH P E ⟨some d, ins, ty, pos, af, some (j, want)⟩ W p W) (k : ∀ p, A p → LW P n ops Q rest (nC E d p) W) (g : (ops[j]?).bind (·.dst) = some t := by exact rfl) (c : E t = .bool b := by exact rfl) (m : t < n := by decide) (i : d < n := by decide) :
  LW P n ops Q (⟨some d, ins, ty, pos, af, some (j, want)⟩ :: rest) E W := Qd g (by rw [c, h]) l k m i
section
variable {dd : Bool} {F : Nat → Prop} {w : World} {μ : jx} {L : List (Nat × Obj)} {T : TypeId} {a off : Nat} {cs : Array Value} {fr : Nat × Nat}
theorem VA {t : TypeId} (b : ST dd F w W μ L) (g : (a, Obj.cells cs T fr) ∈ L) (ys : List Value) (c : ∀ w, (isAgg t).run P w = .ok true w) (i : ∀ w, (sizeOf t).run P w = .ok ys.length w) (h : LW P n ops Q rest (nC E d (.agg ys.toArray)) W) (l : je E x = .pointer (some ⟨a, off, none⟩) := by exact rfl) (m : (cs.toList.drop off).take ys.length = ys := by exact rfl) (j : d < n := by decide) : LW P n ops Q (⟨some d, .load t x, ty, pos, af, none⟩ :: rest) E W := V (jd l (jl b.has g ys m c i)) h j
theorem VB {t : TypeId} (b : ST dd F w W μ L) (g : (a, Obj.cells cs T fr) ∈ L) (j : je E x = .pointer (some ⟨a, off, none⟩)) (l : cs[off]? = some v) (c : ∀ w, (isAgg t).run P w = .ok false w) (h : LW P n ops Q rest (nC E d v) W) (i : d < n := by decide) : LW P n ops Q (⟨some d, .load t x, ty, pos, af, none⟩ :: rest) E W := V (jd j (jA b.has g l c)) h i
end
section
variable {K : (Nat → Value) → World → Prop} {Q' : oP} {c : Code} {id id2 : Nat} {l : List Oper} {z : Code}
theorem sg (h : LW P n l.toArray (oZ (fun E W => CW P n c Q E W) Q) l E W) : CW P n (.seq (.region id l.toArray false) c) Q E W := jt (jq h)
theorem ln (h : K E W) : LW P n ops (oZ K Q) [] E W := jH (jo h)
theorem lr (h : LW P n l.toArray (oZ (fun E W => CW P n c Q E W) Q) l E W) : LW P n ops (oZ (fun E W => CW P n (.seq (.region id l.toArray false) c) Q E W) Q') [] E W := jH (jo (jt (jq h)))
theorem lS (h : LW P n l.toArray (oZ (fun E W => CW P n c (oZ (fun E W => CW P n z Q E W) Q) E W) (oZ (fun E W => CW P n z Q E W) Q)) l E W) : LW P n ops (oZ (fun E W => CW P n (.seq (.seq (.region id l.toArray false) c) z) Q E W) Q') [] E W := jH (jo (jt (jt (jq h))))
theorem bg (h : LW P n l.toArray (oZ (fun E W => CW P n c (ua id2 Q) E W) (ua id2 Q)) l E W) : CW P n (.block id2 (.seq (.region id l.toArray false) c)) Q E W := kW (jt (jq h))
theorem kg (h : LW P n l.toArray (oZ (fun E W => CW P n c Q E W) Q) l E W) : CW P n .skip (oZ (fun E W => CW P n (.seq (.region id l.toArray false) c) Q E W) Q') E W := kX (jo (jt (jq h)))
theorem kS (h : LW P n l.toArray (oZ (fun E W => CW P n c (oZ (fun E W => CW P n z Q E W) Q) E W) (oZ (fun E W => CW P n z Q E W) Q)) l E W) : CW P n .skip (oZ (fun E W => CW P n (.seq (.seq (.region id l.toArray false) c) z) Q E W) Q') E W := kX (jo (jt (jt (jq h))))
theorem lt (h : Q .ret E W) : LW P n ops (oZ (fun E W => CW P n .ret Q E W) Q') [] E W := jH (jo (kl h))
theorem kn (h : K E W) : CW P n .skip (oZ K Q) E W := kX (jo h)
end
end
theorem GD.mono {α β : Type} {P : Program} {fv : Value} {μ μ0 : jx} {c : α → List Value} {d : β → Value} {pm : α → Option β} (h : GD P fv μ c d pm) (j : jC μ μ0) : GD P fv μ0 c d pm := by
 obtain ⟨f, b, h1, g, i⟩ := h
 exact ⟨f, b, h1, g, fun W x r h => i W x r (j.trans h)⟩
theorem GD.form {α β : Type} {P : Program} {fv : Value} {μ : jx} {c : α → List Value} {d : β → Value} {pm : α → Option β} (h : GD P fv μ c d pm) : ∃ f a b, fv = .func f a b := let ⟨f, b, h, _⟩ := h; ⟨_, _, b, h⟩
def DQ (l s : ByteArray) : Option ByteArray := if l.size + s.size ≤ 140737488355328 then some (l ++ s) else none
def Ov (l : ByteArray) : Option ByteArray := some l
def uB (n : Int) : ByteArray := ⟨(Go.Lib.itoa n).toArray⟩
def xf (n : Int) : Option ByteArray := if -9223372036854775808 ≤ n ∧ n ≤ 9223372036854775807 then some (uB n) else none
end Go.Proofs.YtjjjihkifgdhgaaGreatDoor
namespace Go.Proofs.YtjjjihkifgdhgaaGreatDoor
open Go.IntKind renaming wrap → wi0
open Go.RowKit
section
variable {P : Program} {E : Nat → Value} {W : World} {d : Option Nat} {x y : Operand} {tx tv ty : TypeId} {pos : String} {af : Array Edge} {g : Option (Nat × Bool)} {ms : List (String × TypeId)}
theorem DL {tx e : TypeId} {k : Nat} {p : Addr} (dd : Nat) (c : P.underlying tx = some (.pointer e)) (b : ∀ w, (sizeOf e).run P w = .ok (k + 1) w) (W : World) : (Op.equalIn (dd + 1) tx (.pointer (some p)) (.pointer (some p))).run P W = .ok true W := by
 simp [Op.equalIn, aR c, b W, run_sameAddr_same]
theorem HS {e : TypeId} {k : Nat} {p : Addr} (h : P.underlying tx = some (.pointer e)) (c : ∀ w, (sizeOf e).run P w = .ok (k + 1) w) (i : je E x = .pointer (some p)) (j : je E y = .pointer (some p)) : kH P E ⟨d, .binOp .neq tx x y tv, ty, pos, af, g⟩ W (.bool false) W := by
 show (do let r ← (do eqGuard .neq tx x y (je E x) (je E y); binOp .neq tx (je E x) (je E y)); pure (.value r) : Sem Next).run P W = _
 rw [i, j]
 have b := DL (p := p) 9999 h c W
 simp [eqGuard, binOp, Op.equal, Op.maxDepth, b]
end
theorem oV.form {κ γ : Type} {kenc : κ → Value} {Q : Value → γ → List (Nat × Obj) → Prop} {μ : jx} {v : Value} {l : List (κ × γ)} (h : oV kenc Q μ v l) : ∃ m, v = .map m := by
 obtain ⟨b, R, h, _⟩ := h
 obtain ⟨m, rfl⟩ := h.form
 exact ⟨_, rfl⟩
theorem lj.mono {dd : Bool} {P : Program} {f : FuncId} {args : List Value} {w : World} {μ0 : jx} {L0 : List (Nat × Obj)} {K K' : Value → List (Nat × Obj) → jx → Prop} (h : lj dd P f args w μ0 L0 K) (hk : ∀ v L1 μ1, jC μ0 μ1 → K v L1 μ1 → K' v L1 μ1) : lj dd P f args w μ0 L0 K' :=
 cR h fun _ _ ⟨v, L1, μ1, h1, c, b, d, g, i⟩ => ⟨v, L1, μ1, h1, c, b, d, g, hk _ _ _ b i⟩
section
variable {dd : Bool} {F : Nat → Prop} {w W : World} {μ : jx} {L : List (Nat × Obj)} {l : Nat}
theorem yf {w : World} {b : Nat} {o : Obj} (h : b ≠ l) : (w.putObj l o).heap[b]? = w.heap[b]? := World.putObj_heap_other h
theorem ST.frame (h : ST dd F w W μ L) (o : Obj) (m : l < w.heap.size) (j : ¬ F l) (hm : μ l = none) : ST dd F (w.putObj l o) (W.putObj l o) μ L := by
 refine ⟨h.os, h.tape, h.output, h.drawn, by simpa using h.size, fun b d n => ?_, fun b x d => ?_, fun b x d => ?_, h.nd⟩
 ·by_cases c : b = l
  ·subst c
   rw [World.putObj_heap_same (by have := h.size; omega), World.putObj_heap_same m]
  ·rw [yf c, yf c]
   exact h.kO b (by simpa using d) n
 ·have c : b ≠ l := fun e => by rw [e, hm] at d; cases d
  rw [yf c]; exact h.mem b x d
 ·obtain ⟨h1, i, g⟩ := h.box b x d
  have c : b ≠ l := fun e => by
   subst e
   rcases g with g | g
   ·omega
   ·exact j g
  rw [yf c]
  exact ⟨h1, i, by simpa using g⟩
end
theorem BS (s : ByteArray) : Go.Lib.strCells s = ((lB s).map (jN .u8)).flatten := by
 unfold Go.Lib.strCells lB
 induction s.data.toList with
 | nil => rfl
 | cons b l ih => simp only [bI, bH, ih]; rfl
theorem DO (k : IntKind) (l : List Int) : ((l.map (jN k)).flatten).length = l.length := by
 rw [oy (k := 1) (fun _ => rfl), gY]
section
variable {P : Program} {dd : Bool} {F : Nat → Prop} {w W : World} {μ : jx} {R : List (Nat × Obj)} {E : Nat → Value} {d : Option Nat} {ty : TypeId} {pos : String} {af : Array Edge} {g : Option (Nat × Bool)}
theorem HJ {K : Value → World → Prop} {e t u : TypeId} {v : Value} {l r : List Int} {str : ByteArray} (X : List (Nat × Obj)) {Y : List (Nat × Obj)} {x y : Operand} {i : TypeInfo} (n : ST dd F w W μ (X ++ (R ++ Y))) (Z : P.underlying t = some (.slice e)) (hu : P.underlying u = some .string) (T : P.info? e = some i) (hz : i.zero = some (.int .u8 0)) (I : i.size = 1) (M : i.bytes = 1) (hx : je E x = v) (hy : je E y = .string str) (hR : jw e (jN .u8) 1 v l R) (Q : kN 1 l (lB str) = some r) (h : ∀ W' v' R', ST dd F w W' μ (X ++ (R' ++ Y)) → jw e (jN .u8) 1 v' r R' → (v = .slice none 0 0 → str.size = 0 → v' = .slice none 0 0) → K v' W') : ma P E ⟨d, .call ⟨.builtin .append, #[x, y], #[t, u]⟩, ty, pos, af, g⟩ W K := by
 unfold kN at Q
 split at Q
 case isFalse => cases Q
 rename_i L
 cases Q
 rw [lX, gY] at L
 obtain ⟨a1, J⟩ := L
 have hM : maxLen = 9223372036854775807 := by unfold maxLen; rfl
 have s : ∀ (V : Value) (W' : World), (Builtin.append_ #[t, u] ty #[v, .string str]).run P W = .ok V W' → (execOp (je E) ⟨d, .call ⟨.builtin .append, #[x, y], #[t, u]⟩, ty, pos, af, g⟩).run P W = .ok (.value V) W' := by
  intro V W' hV
  show (do let d ← resolve (je E) ⟨.builtin .append, #[x, y], #[t, u]⟩ ty; invoke d.target d.args : Sem Next).run P W = _
  simp [resolve, invoke, builtin, hx, hy, hV]
 have o : ((l ++ lB str).map (jN .u8)).flatten = (l.map (jN .u8)).flatten ++ Go.Lib.strCells str := by rw [bV, cE, BS]
 have c : (l ++ lB str).length = l.length + str.size := by rw [aC, lX]
 have ad : (Value.int IntKind.u8 0).cells.size = 1 := rfl
 have fresh : ∀ (kO : Nat) (L' : List (Nat × Obj)), ¬ (v = .slice none 0 0 ∧ str.size = 0) → ST dd F w W μ L' → L'.Perm (X ++ Y) → (Builtin.append_ #[t, u] ty #[v, .string str]).run P W = .ok (.slice (some ⟨W.heap.size, 0, none⟩) (l.length + str.size) (grownCap W (l.length + str.size) kO e))
    (W.drew.alloc (.cells (((l.map (jN .u8)).flatten ++ Go.Lib.strCells str).toArray ++ Builtin.zeroCells (Value.int .u8 0).cells (grownCap W (l.length + str.size) kO e - (l.length + str.size))) e)) →
   ma P E ⟨d, .call ⟨.builtin .append, #[x, y], #[t, u]⟩, ty, pos, af, g⟩ W K := by
  intro kO L' hv G hp A
  have a8 := iL W (l.length + str.size) kO e
  have a7 : grownCap W (l.length + str.size) kO e ≤ maxLen := fI W (l.length + str.size) kO e J
  have hlen : ((l.map (jN .u8)).flatten ++ Go.Lib.strCells str).length = l.length + str.size := by rw [aC, DO, fX]
  generalize O : ((l.map (jN .u8)).flatten ++ Go.Lib.strCells str).toArray ++ Builtin.zeroCells (Value.int .u8 0).cells (grownCap W (l.length + str.size) kO e - (l.length + str.size)) = cs at A
  refine .inl ⟨_, _, s _ _ A, h _ _ [(W.heap.size, .cells cs e)] ?_ (.inr ⟨W.heap.size, _, cs, by rw [c], rfl, by rw [c]; exact a8, a7, ?_, ?_⟩) fun q1 q2 => absurd ⟨q1, q2⟩ hv⟩
  ·exact ((G.perm hp).drew.alloc _).perm (List.perm_middle.symm)
  ·subst O
   simp only [gX, dn, gM, ad, hlen]
   omega
  ·subst O
   rw [c, o, gY, ← hlen]
   simp only [gB]
   exact fW
 rcases hR with ⟨rfl, rfl, rfl⟩ | ⟨z, cap, m, rfl, rfl, q1, q2, q3, q4⟩
 ·rcases dY str.size with G | G
  ·have hf := Go.Lib.run_firstCells_string (P := P) W 1 str
   have a6 : lB str = [] := aN (by rw [lX]; exact G)
   refine .inl ⟨.slice none 0 0, W, s _ _ ?_, h W _ [] n (.inl ⟨rfl, by rw [a6]; rfl, rfl⟩) fun _ _ => rfl⟩
   simp [Builtin.append_, aR Z, aR hu, sizeOf, typeInfo, T, I, Builtin.lenOf, G]
   rw [G] at hf
   simp [hf]
  ·have A := run_append_nil_string (P := P) W t u ty e i (.int .u8 0) Z hu T hz str G (by simp at J; omega) (by rw [M]; simp at a1; omega)
   refine fresh 0 _ (fun q => by omega) n (.refl _) ?_
   have e1 : (str.data.map fun b => Value.int .u8 b.toNat) = (Go.Lib.strCells str).toArray := by
    apply Array.ext'
    simp [Go.Lib.strCells]
   rw [e1] at A
   simpa using A
 ·have hg := (n.box z (.cells m e (0, 0)) (by simp)).1
  by_cases p : l.length + str.size ≤ cap
  ·have A := Go.Lib.run_append_room_string (P := P) W t u ty e i Z hu T I z l.length cap m hg str p (by omega)
   refine .inl ⟨_, _, s _ _ A, h _ _ [(z, _)] (ST.put n ⟨rfl, rfl, rfl, aQ _, by simp⟩ (fun k hk => setRow_other W z k _ hk) (setRow_heap W z m _ e _ hg)) (.inr ⟨z, cap, _, by rw [c], rfl, by rw [c]; exact p, q2, ?_, ?_⟩) fun q => by cases q⟩
   ·simp only [dn, aC, cP, fl, dz, fX]
    omega
   ·have ab : m.toList.take l.length = (l.map (jN .u8)).flatten := by simpa using q4
    rw [c, o, gY, ab, show l.length + str.size = ((l.map (jN .u8)).flatten ++ Go.Lib.strCells str).length by rw [aC, DO, fX]]
    simp only [aI]
    rw [← aI]
    exact fW
  ·have holds : ∀ j u, ((l.map (jN .u8)).flatten)[j]? = some u → W.cell? ((⟨z, 0, none⟩ : Addr).add j) = some u := by
    intro j u U
    rw [dt, fh W z (0 + j) m e (0, 0) hg, dL]
    rw [← q4] at U
    have aa := (aY.1 U).1
    rw [cP] at aa
    rw [cZ (by omega)] at U
    simpa using U
   have A := Go.Lib.run_append_grow_string (P := P) W t u ty e i (.int .u8 0) Z hu T hz ⟨z, 0, none⟩ l.length cap ((l.map (jN .u8)).flatten) (by rw [DO, I, gY]) holds str (by omega) (by omega) (by rw [M]; exact growslice_fits (by omega) (by omega))
   refine fresh cap (X ++ Y) (fun q => by cases q.1) (n.sublist (by simp)) (.refl _) ?_
   simpa using A
theorem Kx {s t : TypeId} {x : Operand} {v b : Value} (c : je E x = v) (h : (convert s t v).run P W = .ok b W) : kH P E ⟨d, .convert s t x, ty, pos, af, g⟩ W b W := by
 show (do pure (.value (← convert s t (je E x))) : Sem Next).run P W = _
 rw [c]
 simp only [bY, h, bK, cW]
theorem Dy {b : Nat} {cs : Array Value} {T : TypeId} {fr : Nat × Nat} {W : World} (h : W.heap[b]? = some (.cells cs T fr)) : W.shape? b = some (T, cs.size) := by simp [World.shape?, h]
def G5 (T e : TypeId) (v : Value) (l : ByteArray) (R : List (Nat × Obj)) : Prop :=
 ∃ b a u S, v = .pointer (some ⟨b, 0, none⟩) ∧ (a = .pointer none ∨ a = .pointer (some ⟨b, 0, none⟩)) ∧ R = (b, .cells #[a, u] T (0, 0)) :: S ∧ jw e (jN .u8) 1 u (lB l) S ∧ (l.size = 0 → u = .slice none 0 0)
theorem IN (l s : ByteArray) : lB (l ++ s) = lB l ++ lB s := by
 simp [lB, ByteArray.data_append]
theorem Lh {l s r : ByteArray} (h : DQ l s = some r) : kN 1 (lB l) (lB s) = some (lB r) := by
 unfold DQ at h
 split at h
 case isFalse => cases h
 rename_i b
 cases h
 unfold kN
 rw [lX, lX, IN, aW ⟨by omega, by unfold maxLen; omega⟩]
theorem Lb {l s r : ByteArray} (h : DQ l s = some r) (b : r.size = 0) : l.size = 0 ∧ s.size = 0 := by
 unfold DQ at h
 split at h
 case isFalse => cases h
 cases h
 rw [dJ] at b
 omega
theorem zX (w : World) (g n k : Nat) (hk : k ≠ g) : (w.freeze ⟨g, 0, none⟩ n).heap[k]? = w.heap[k]? := by
 unfold World.freeze
 split
 ·rfl
 ·simp [dA, Ne.symm hk]
theorem J9 {L : List (Nat × Obj)} {g n : Nat} {o : Obj} (d : ST dd F w W μ ((g, o) :: L)) : ST dd F w (W.freeze ⟨g, 0, none⟩ n) μ L := by
 have h1 := d.sublist (List.sublist_cons_self _ _)
 have p := d.box g o (.head _)
 have j : ∀ b q, (b, q) ∈ L → b ≠ g := fun b q c e => by
  subst e
  have := d.nd
  simp only [bI, cT] at this
  exact this.1 (bG.2 ⟨_, c, rfl⟩)
 have l : (W.freeze ⟨g, 0, none⟩ n).heap.size = W.heap.size := by unfold World.freeze; split <;> simp
 have i : (W.freeze ⟨g, 0, none⟩ n).os = W.os ∧ (W.freeze ⟨g, 0, none⟩ n).tape = W.tape ∧ (W.freeze ⟨g, 0, none⟩ n).output = W.output ∧ (W.freeze ⟨g, 0, none⟩ n).drawn = W.drawn := by unfold World.freeze; split <;> exact ⟨rfl, rfl, rfl, rfl⟩
 refine ⟨i.1.trans h1.os, i.2.1.trans h1.tape, i.2.2.1.trans h1.output, by rw [i.2.2.2]; exact h1.drawn, by rw [l]; exact h1.size, fun b c m => ?_, fun b q c => ?_, fun b q c => ?_, h1.nd⟩
 ·rw [zX _ _ _ _ (fun e => by subst e; rcases p.2.2 with h | h; omega; exact m h)]; exact h1.kO b c m
 ·rw [zX _ _ _ _ (fun e => by subst e; rw [p.2.1] at c; cases c)]; exact h1.mem b q c
 ·rw [zX _ _ _ _ (j b q c)]; exact h1.box b q c
theorem Lv {x : Operand} {u : Value} {ats : Array TypeId} {q : Option Addr} (i : je E x = u) (h : ∃ a n c, u = .slice a n c ∧ (a = none ∨ c ≠ 0) ∧ q = a) : kH P E ⟨d, .call ⟨.builtin .unsafeSliceData, #[x], ats⟩, ty, pos, af, g⟩ W (.pointer q) W := by
 obtain ⟨a, n, c, rfl, h1, rfl⟩ := h
 show (do let d ← resolve (je E) ⟨.builtin .unsafeSliceData, #[x], ats⟩ ty; invoke d.target d.args : Sem Next).run P W = _
 have b : (Builtin.unsafeSliceData_ ats ty #[.slice q n c]).run P W = .ok (.pointer q) W := by
  rcases q with _ | a
  ·exact Go.Lib.run_unsafeSliceData_nil (P := P) W _ _ _ _
  ·exact Go.Lib.run_unsafeSliceData_row (P := P) W _ _ _ _ _ (h1.resolve_left (by simp))
 simp [resolve, invoke, builtin, i, b]
theorem IG {K : Value → World → Prop} {L : List (Nat × Obj)} {t e : TypeId} (c : ST dd F w W μ L) (i : ∀ w, (zeroValue t).run P w = .ok (.agg #[.pointer none, .slice none 0 0]) w) (h : ∀ W' v R, ST dd F w W' μ (R ++ L) → G5 t e v ⟨#[]⟩ R → K v W') : ma P E ⟨d, .alloc t, ty, pos, af, g⟩ W K :=
 kq c i fun W' b c => h W' _ [(b, _)] c ⟨b, _, _, [], rfl, .inl rfl, rfl, .inl ⟨rfl, rfl, rfl⟩, fun _ => rfl⟩
theorem Jq {l : ByteArray} (h : lB l = []) : l = ⟨#[]⟩ := by
 have : l.data.toList = [] := by simpa [lB] using h
 exact fB (by simpa using this)
theorem HR {K : Value → World → Prop} {L S : List (Nat × Obj)} {x y : Operand} {o it e : TypeId} {q : Option Addr} {l : ByteArray} {n c : Nat} (i : ST dd F w W μ (S ++ L)) (hp : P.underlying o = some (.pointer e)) (Q : P.cellsOf e = 1) (T : je E x = .pointer q) (U : je E y = .int .i64 (n : Nat)) (M : jw e (jN .u8) 1 (.slice q n c) (lB l) S) (h : ∀ W', ST dd F w W' μ L → K (.string l) W') : ma P E ⟨d, .call ⟨.builtin .unsafeString, #[x, y], #[o, it]⟩, ty, pos, af, g⟩ W K := by
 have m : ∀ (V : Value) (W' : World), (Builtin.unsafeString_ #[o, it] ty #[.pointer q, .int .i64 (n : Nat)]).run P W = .ok V W' → (execOp (je E) ⟨d, .call ⟨.builtin .unsafeString, #[x, y], #[o, it]⟩, ty, pos, af, g⟩).run P W = .ok (.value V) W' := by
  intro V W' O
  show (do let d ← resolve (je E) ⟨.builtin .unsafeString, #[x, y], #[o, it]⟩ ty; invoke d.target d.args : Sem Next).run P W = _
  simp [resolve, invoke, builtin, T, U, O]
 have none : lB l = [] → n = 0 → ∀ z : ST dd F w W μ L, ma P E ⟨d, .call ⟨.builtin .unsafeString, #[x, y], #[o, it]⟩, ty, pos, af, g⟩ W K := by
  intro h1 s z
  subst s
  rw [Jq h1] at h
  exact .inl ⟨_, _, m _ _ (Go.Lib.run_unsafeString_none (P := P) W o it ty q), h W z⟩
 rcases M with ⟨h1, s, rfl⟩ | ⟨p, cap, b, h1, rfl, q1, Y, q3, Z⟩
 ·cases h1
  exact none s rfl i
 ·cases h1
  by_cases r : lB l = []
  ·exact none r (by rw [r]; rfl) (i.sublist (by simp))
  ·have u : l.data.toList ≠ [] := by simpa [lB] using r
   have t : (lB l).length = l.data.toList.length := by simp [lB]
   have A := (i.box p (.cells b e (0, 0)) (by simp)).1
   have I := Go.Lib.run_unsafeString_row (P := P) W o it ty e hp Q p b.size (Dy A) l.data.toList u (by omega) (by unfold maxLen at Y; omega) (fun j x G => by
    rw [dt, fh W p (0 + j) b e (0, 0) A, dL]
    have R := (aY.1 G).1
    have v : (b.toList.take ((lB l).length * 1))[j]? = some (.int .u8 x.toNat) := by
     rw [Z, ← BS]
     simp only [Go.Lib.strCells, ek, G]
     rfl
    rw [cZ (by omega)] at v
    simpa using v)
   rw [← t] at I
   refine .inl ⟨_, _, m _ _ I, ?_⟩
   have J : (⟨l.data.toList.toArray⟩ : ByteArray) = l := fB (by simp)
   rw [J]
   exact h _ (J9 i)
end
def zH (P : Program) (μ : jx) : Prop := ∃ g T fr, P.globalNamed "internal/strconv.uint64pow10" = some g ∧ μ g = some (.cells (Go.Lib.pow10Tab.map fun z => Value.int .u64 z).toArray T fr)
theorem zH.mono {P : Program} {μ μ' : jx} (h : zH P μ) (c : jC μ μ') : zH P μ' := by
 obtain ⟨g, T, fr, h1, b⟩ := h
 exact ⟨g, T, fr, h1, c _ _ b⟩
end Go.Proofs.YtjjjihkifgdhgaaGreatDoor
namespace Go.Proofs.YtjjjihkifgdhgaaGreatDoor
open Go.IntKind renaming wrap → wi0
open Go.Sort Go.Proofs Go.Shelf
theorem DA {g b : Nat} {o : Obj} : keys [(g, o)] b ↔ b = g := by
 constructor
 ·rintro ⟨c, h⟩
  simp at h
  exact h.1
 ·rintro rfl; exact ⟨o, by simp⟩
theorem zQ (w : World) (g m : Nat) (f : Array Value → Array Value) (os : Array Obj) (b : Nat) (d : b < w.heap.size) :
  (Go.Sort.grow (mapBlock (Go.Sort.ahead w m) g f) os).heap[b]? = if g = b then w.heap[b]?.map (onCells f) else w.heap[b]? := by
 have c : b < (mapBlock (Go.Sort.ahead w m) g f).heap.size := by simp only [mapBlock, Go.Sort.ahead, Array.size_modify]; exact d
 rw [heap_grow_old _ _ c]
 simp only [mapBlock, Go.Sort.ahead, dA]
theorem HL {w : World} {g m : Nat} {f : Array Value → Array Value} {os : Array Obj} {cs : Array Value} {T : TypeId} {fr : Nat × Nat} (d : w.heap[g]? = some (.cells cs T fr)) :
  rr true [(g, .cells cs T fr)] [(g, .cells (f cs) T fr)] w (Go.Sort.grow (mapBlock (Go.Sort.ahead w m) g f) os) := by
 have c : g < w.heap.size := (dl.1 d).1
 refine ⟨⟨rfl, rfl, rfl, ?_, ?_, fun b i j => ?_⟩, fun b o h => ?_, by simp⟩
 ·refine qI.of ?_
  show w.drawn ≤ w.drawn + m
  omega
 ·show w.heap.size ≤ (w.heap.modify g (onCells f) ++ os).size
  simp
 ·rw [zQ _ _ _ _ _ _ i, aU fun h => j (DA.2 h.symm)]
 ·simp only [aM, dm, fj, Prod.mk.injEq] at h
  obtain ⟨rfl, rfl⟩ := h
  refine ⟨?_, .inr (DA.2 rfl)⟩
  rw [zQ _ _ _ _ _ _ c, aW rfl, d]
  rfl
theorem IX {w W : World} (h : Ex true w W) : ∃ q os, W = Go.Sort.grow (w.drewN q) os := by
 refine ⟨W.drawn - w.drawn, W.heap.extract w.heap.size W.heap.size, ?_⟩
 have g : W.heap = w.heap ++ W.heap.extract w.heap.size W.heap.size := by
  apply Array.ext_getElem?
  intro i
  rw [Array.getElem?_append]
  split
  ·rename_i j; exact h.kO i j
  ·rename_i j
   rw [Array.getElem?_extract]
   have m := h.size
   split
   ·rw [show w.heap.size + (i - w.heap.size) = i by omega]
   ·exact Array.getElem?_eq_none (by omega)
 obtain ⟨h1, n, o, p, r⟩ := W
 have b := h.os; have c := h.tape; have d := h.output; have l := h.drawn rfl
 simp only at b c d l g
 unfold Go.Sort.grow World.drewN
 simp only [World.mk.injEq]
 exact ⟨g, c, by omega, b, d⟩
theorem It {α : Type} [Inhabited α] {enc : α → List Value} {k : Nat} (hk : ∀ x, (enc x).length = k) (l : List α) (j : Nat) (b : j < l.length * k) :
  (l.map enc).flatten[j]? = some ((flatK enc k l.toArray)[j]!) := by
 have g : 0 < k := by
  cases k with
  | zero => simp at b
  | succ n => omega
 have h1 : j / k < l.length := (Nat.div_lt_iff_lt_mul g).2 b
 rw [get_flatK _ _ _ _ (by simpa using b)]
 have h : l.toArray[j / k]! = l[j / k] := by
  rw [getElem!_pos l.toArray (j / k) (by simpa using h1)]; simp
 rw [h]
 have c : j % k < (enc l[j / k]).length := by rw [hk]; exact Nat.mod_lt _ g
 have d := vu hk l (j / k) l[j / k] (dx h1) (j % k) ((enc l[j / k])[j % k]) (dx c)
 rw [Nat.div_add_mod' j k] at d
 rw [d, getElem!_pos (enc l[j / k]) (j % k) c]
theorem F7 {α : Type} [Inhabited α] {enc : α → List Value} {k : Nat} (hk : ∀ x, (enc x).length = k) {w : World} {g : Nat} {cs : Array Value} {T : TypeId} (c : w.heap[g]? = some (.cells cs T (0, 0))) (l : List α)
  (h : cs.toList.take (l.length * k) = (l.map enc).flatten) : HoldsK enc k w g 0 l.toArray := by
 intro j d
 have b : j < l.length * k := by simpa using d
 have h1 := It hk l j b
 rw [← h, eK, aW b] at h1
 refine ⟨?_, ?_⟩
 ·simp only [World.cell?, c, dL]
  simpa using h1
 ·simp [World.frozen?, c]
theorem HX {α : Type} [Inhabited α] {enc : α → List Value} {k : Nat} (hk : ∀ x, (enc x).length = k) {cs : Array Value} (l : List α) (c : l.length * k ≤ cs.size) :
  (putCells id 0 (flatK enc k l.toArray) cs).toList.take (l.length * k) = (l.map enc).flatten := by
 apply ei
 intro j
 rw [eK]
 split
 ·rename_i b
  rw [It hk l j b]
  simp only [putCells, dB, Array.getElem?_mapIdx, size_flatK, dn]
  rw [Array.getElem?_eq_getElem (by omega)]
  simp [b]
 ·rename_i b
  rw [eX (by rw [oy hk]; omega)]
theorem Gb (enc : Value → Value) (o : Nat) (d c : Array Value) : (putCells enc o d c).size = c.size := by simp [putCells]
section
variable {α : Type} {P : Program} {ρ : Ren}
theorem NO {l : List α} {cf : α × α → Option Int} (h : Cl cf l) : SWO (ltOf fun (x y : {x // x ∈ l}) => (cf (x.1, y.1)).getD 0) ∧
  (∀ x y : {x // x ∈ l}, ltOf (fun (x y : {x // x ∈ l}) => (cf (x.1, y.1)).getD 0) x y = rH cf x.1 y.1) := by
 have e : ∀ x y : {x // x ∈ l}, ltOf (fun (x y : {x // x ∈ l}) => (cf (x.1, y.1)).getD 0) x y = rH cf x.1 y.1 := fun x y => by
  obtain ⟨c, i⟩ := h.is x.1 x.2 y.1 y.2
  simp [ltOf, rH, i]
 refine ⟨⟨fun x => ?_, fun x y z => ?_, fun x y z => ?_⟩, e⟩
 ·rw [e]; exact h.irrefl _ x.2
 ·rw [e, e, e]; exact h.trans _ x.2 _ y.2 _ z.2
 ·rw [e, e, e]
  intro h1 d
  cases b : rH cf x.1 z.1 with
  | false => rfl
  | true =>
   cases g : rH cf y.1 x.1 with
   | true =>
    have := h.trans _ y.2 _ x.2 _ z.2 g b
    rw [d] at this; cases this
   | false =>
    have := h.total _ x.2 _ y.2 h1 g
    rw [this, d] at b; cases b
theorem HY (L : SlLaysF0.n6 P ρ) (k : Nat) (aE : ∀ w, (isAgg (ρ.t 24)).run P w = .ok true w) (zE : ∀ w, (Go.sizeOf (ρ.t 24)).run P w = .ok k w) {e : TypeId} (enc : α → List Value) (hk : ∀ x, (enc x).length = k) (h1 : ∀ x, ∀ u ∈ enc x, u.oneCell' = true) {v fv : Value} {l r : List α} {R : List (Nat × Obj)} {cf : α × α → Option Int} {w : World} {μ0 : jx} (hH : BU (R ++ []) w) (E : jC μ0 (rU w (R ++ []))) (Z : jw e enc k v l R) (hc : GD P fv μ0 (fun (x : α × α) => [(.agg (enc x.1).toArray), (.agg (enc x.2).toArray)]) (fun (r : Int) => (.int .i64 r)) cf) (hm : xh cf l = some r) :
  kw true P (ρ.f 6) [v, fv] w (R ++ []) (fun u L1 _ => ∃ (S : List (Nat × Obj)), u = (.tuple #[]) ∧ L1 = (S ++ []) ∧ jw e enc k v r S) := by
 obtain ⟨ok, rfl⟩ := EE hm
 rw [aT] at hH E ⊢
 rcases dY l.length with h0 | j
 ·have hl : l = [] := aN h0
  subst hl
  have hs : qR cf ([] : List α) = [] := by simp [qR]
  rw [hs]
  obtain ⟨p, c, rfl⟩ : ∃ p c, v = .slice p 0 c := by
   rcases Z with ⟨rfl, _, _⟩ | ⟨g, cap, q, rfl, _⟩
   ·exact ⟨_, _, rfl⟩
   ·exact ⟨_, _, rfl⟩
  refine cR (AnyF.slices_SortFunc_none L p c fv w) fun x w' ⟨hx, hw⟩ => ?_
  subst hx hw
  refine ⟨_, R, rfl, ⟨⟨rfl, rfl, rfl, qI.of (aQ _), aQ _, fun _ _ _ => rfl⟩, fun b o h => ⟨hH b o h, .inr ⟨o, h⟩⟩, ?_⟩, R, rfl, (aT R).symm, Z⟩
  rcases Z with ⟨_, _, rfl⟩ | ⟨g, cap, q, _, rfl, _⟩ <;> simp
 ·rcases Z with ⟨_, rfl, _⟩ | ⟨g, cap, q, rfl, rfl, a8, a7, O, ae⟩
  ·simp at j
  have hg : w.heap[g]? = some (.cells q e (0, 0)) := hH g _ (by simp)
  have aa : g < w.heap.size := (dl.1 hg).1
  haveI : Inhabited {x // x ∈ l} := ⟨⟨l[0], List.getElem_mem j⟩⟩
  obtain ⟨gg, d, rfl, Q, z⟩ := hc
  obtain ⟨hO, T⟩ := NO ok
  have G : l.attach.toArray.size = l.length := by simp
  have ab : l.attach.map (fun x => enc x.1) = l.map enc := by
   rw [show (fun x : {x // x ∈ l} => enc x.1) = enc ∘ Subtype.val from rfl, ← ep, List.attach_map_subtype_val]
  have a1 : HoldsK (fun x : {x // x ∈ l} => enc x.1) k w g 0 l.attach.toArray := F7 (fun x => hk x.1) hg l.attach (by rw [ab, List.length_attach, ae])
  have M : CmpLays P gg d (fun x : {x // x ∈ l} => enc x.1) k (fun x y => (cf (x.1, y.1)).getD 0) g 0 l.attach.toArray.size w := by
   intro m os dk ag x y
   obtain ⟨c, J⟩ := ok.is x.1 x.2 y.1 y.2
   have Y : jC μ0 (hp (sortWorldK (fun x : {x // x ∈ l} => enc x.1) k w g 0 m dk os)) := fun b o hb => by
    have A := E b o hb
    unfold rU at A
    split at A
    ·cases A
    ·rename_i hn
     have a6 : b < w.heap.size := (dl.1 A).1
     show (Go.Sort.grow (mapBlock (Go.Sort.ahead w m) g _) os).heap[b]? = _
     rw [zQ _ _ _ _ _ _ a6, aU fun h => hn (DA.2 h.symm)]
     exact A
   have h3 := z (sortWorldK (fun x : {x // x ∈ l} => enc x.1) k w g 0 m dk os) (x.1, y.1) c Y J
   have ea : ([Value.agg (enc x.1).toArray, Value.agg (enc y.1).toArray] ++ d.toList).toArray = #[Value.agg (enc x.1).toArray, Value.agg (enc y.1).toArray] ++ d := by
    apply Array.ext'; simp
   rw [← ea]
   exact cR h3 fun u W' hu => ⟨by rw [hu.1]; show _ = Ending.returned (.int .i64 ((cf (x.1, y.1)).getD 0)); rw [J]; rfl, IX hu.2⟩
  have hT : ∀ x y : {x // x ∈ l}, ltOf (fun (x y : {x // x ∈ l}) => (cf (x.1, y.1)).getD 0) x y = false → ltOf (fun (x y : {x // x ∈ l}) => (cf (x.1, y.1)).getD 0) y x = false → x = y := fun x y a b => by
   rw [T] at a b
   exact Subtype.ext (ok.total _ x.2 _ y.2 a b)
  have i := AnyQ.slices_SortFunc_total L k aE zE (fun x : {x // x ∈ l} => enc x.1) (fun x => hk x.1) (fun x => h1 x.1) (fun x y => (cf (x.1, y.1)).getD 0) hO gg d g 0 cap l.attach.toArray w Q M a1 aa (by rw [G]; exact ok.short) hT
  rw [G] at i
  refine cR i fun u w' ⟨hu, n, os, hw⟩ => ?_
  subst hu
  generalize hs : l.attach.toArray.toList.mergeSort (fun x y => !ltOf (fun (x y : {x // x ∈ l}) => (cf (x.1, y.1)).getD 0) y x) = s at hw
  have ad : s.map Subtype.val = qR cf l := by
   rw [← hs, gN (s := fun x y => !rH cf y x) (fun a _ b _ => by rw [T])]
   simp [qR]
  have W : s.length = l.length := by rw [← hs, List.length_mergeSort]; simp
  have U : (qR cf l).length = l.length := by simp [qR, List.length_mergeSort]
  have I := HL (w := w) (m := n) (f := putCells id 0 (flatK (fun x : {x // x ∈ l} => enc x.1) k s.toArray)) (os := os) hg
  have af : w' = Go.Sort.grow (mapBlock (Go.Sort.ahead w n) g (putCells id 0 (flatK (fun x : {x // x ∈ l} => enc x.1) k s.toArray))) os := hw
  rw [← af] at I
  refine ⟨_, _, rfl, I, _, rfl, (aT _).symm, .inr ⟨g, cap, _, by rw [U], rfl, by omega, a7, by rw [Gb, O], ?_⟩⟩
  rw [U, ← W, HX (fun x => hk x.1) s (by rw [W, O]; exact cI k a8), ← ad, ep]
  rfl
end
theorem BM (b : ByteArray) : b.toList = b.data.toList := by rw [eF]
theorem Nq (l : List ByteArray) : (l.map Bb).flatten = l.map Value.string := by
 induction l with
 | nil => rfl
 | cons x l ih => simp only [bI, bH, ih]; rfl
theorem KU (l : List ByteArray) : (sn l).map (fun b => b.data.toList) = (l.map (fun b => b.data.toList)).mergeSort (fun x y => decide (x ≤ y)) := by
 unfold sn
 refine gN fun a _ b _ => ?_
 unfold oJ
 rw [bytesLess_eq, BM, BM]
 by_cases h : a.data.toList ≤ b.data.toList
 ·have c : ¬ b.data.toList < a.data.toList := List.not_lt.2 h
  simp [h, c]
 ·have c : b.data.toList < a.data.toList := by
   cases Decidable.em (b.data.toList < a.data.toList) with
   | inl d => exact d
   | inr d => exact absurd (List.not_lt.1 d) h
  simp [h, c]
end Go.Proofs.YtjjjihkifgdhgaaGreatDoor
namespace Go.Proofs.YtjjjihkifgdhgaaGreatDoor
open Go.IntKind renaming wrap → wi0
open Go.WideElems Go.WideShapes Go.Sort Go.Proofs Go.Shelf
theorem HQ {β : Type} {vf : β → Value} {P : Program} {kt : TypeId} (z : P.underlying kt = some .string) {l : List (ByteArray × β)} {es : Array MapEntry} {clock : Nat} (h : sd Value.string vf l es clock) (w : (l.map (·.1)).Nodup) (y : ∀ p ∈ l, p.1.size ≤ maxLen) (u : l.length ≤ maxLen) {W : World} {b : Nat} (t : W.heap[b]? = some (.map es clock)) : ∃ D : DataW Unit, W.ownsMap P kt (fun _ => some (.lit (.bool true), [])) b es.size D ∧ (strKeys D).Perm (l.map (fun p => p.1.data.toList)) ∧ Maps.size D = l.length := by
 have c := h.keys
 have n : ∀ x ∈ es.toList, ∃ s : ByteArray, x.key = .string s ∧ s.size ≤ maxLen := fun x i => by
  have h1 : x.key ∈ es.toList.map (·.key) := bG.2 ⟨x, i, rfl⟩
  rw [c] at h1
  obtain ⟨s, g, j⟩ := bG.1 h1
  obtain ⟨p, q, r⟩ := bG.1 g
  exact ⟨s, j.symm, by rw [← r]; exact y p q⟩
 have d : ∀ x ∈ es.toList, ∃ s : ByteArray, x.key = .string s ∧ Go.WideElems.rd (H := Unit) P kt (fun _ => some (.lit (.bool true), [])) x = some (.string s.data.toList, .lit (.bool true)) := fun x i => by
  obtain ⟨s, h1, g⟩ := n x i
  refine ⟨s, h1, ?_⟩
  simp [Go.WideElems.rd, keyOf, z, mapKey, h1, g]
 refine ⟨_, ⟨es, clock, t, ⟨by rw [h.length]; exact u, ⟨h.lt, ?_, ?_⟩, fun x i => ?_⟩, aQ _, rfl⟩, ?_, ?_⟩
 ·have := h.born
  rw [List.Nodup, fa]
  exact this.imp (fun {a b} h => by omega)
 ·rw [c]
  rw [List.Nodup, fa]
  exact w.imp (fun {a b} m e => m (by injection e))
 ·obtain ⟨s, _, g⟩ := d x i
  exact ⟨_, g⟩
 ·have h1 := (sorted_perm (es.toList.map (Go.WideElems.rg (H := Unit) P kt (fun _ => some (.lit (.bool true), []))))).map (fun p => strOf p.1)
  refine List.Perm.trans h1 ?_
  have e : (es.toList.map (Go.WideElems.rg (H := Unit) P kt (fun _ => some (.lit (.bool true), [])))).map (fun p => strOf p.1) = l.map (fun p => p.1.data.toList) := by
   have o : (es.toList.map (Go.WideElems.rg (H := Unit) P kt (fun _ => some (.lit (.bool true), [])))).map (fun p => strOf p.1) = (es.toList.map (·.key)).map (fun v => match v with | .string s => s.data.toList | _ => []) := by
    rw [ep, ep]
    refine List.map_congr_left fun x i => ?_
    obtain ⟨s, g, j⟩ := d x i
    simp [Go.WideElems.rg, j, g, strOf]
   rw [o, c, ep, ep]
   rfl
  rw [e]
 ·have h1 := (sorted_perm (es.toList.map (Go.WideElems.rg (H := Unit) P kt (fun _ => some (.lit (.bool true), []))))).length_eq
  show (List.foldr DataW.insert [] _).length = _
  rw [h1, cU, ← h.length]
  simp
theorem F2 {l : List ByteArray} {g : List (List UInt8)} (h : g.Perm (l.map fun b => b.data.toList)) : g.mergeSort (fun x y => decide (x ≤ y)) = (sn l).map (fun b => b.data.toList) := by
 rw [KU]
 have le : ∀ a b c : List UInt8, decide (a ≤ b) = true → decide (b ≤ c) = true → decide (a ≤ c) = true := fun a b c h1 d => by
  simp only [bD] at *
  exact List.le_trans h1 d
 have tot : ∀ a b : List UInt8, (decide (a ≤ b) || decide (b ≤ a)) = true := fun a b => by
  simp only [eQ, bD]
  exact List.le_total a b
 refine List.Perm.eq_of_pairwise (le := fun a b => decide (a ≤ b) = true) (fun a b _ _ h1 d => List.le_antisymm (by simpa using h1) (by simpa using d)) (fO le tot _) (fO le tot _) ?_
 exact (gC _ _).trans (h.trans (gC _ _).symm)
section
variable {P : Program} {ρk ρt ρm : Ren}
theorem HF (LK : SlLaysZ.n7 P ρk) (LT : SlLaysZ.n6 P ρt) (LM : SlLaysM.n6 P ρm) (h9 : ρt.f 9 = ρm.f 6) (hK : P.underlying (ρk.t 26) = some .string) (eg : ∀ args w, (callFunc (ρk.f 10) args).run P w = .ok (.enter (ρk.f 10) args) w) (es : ∀ args w, (callFunc (ρt.f 9) args).run P w = .ok (.enter (ρt.f 9) args) w) {β : Type} {vf : β → Value} {l : List (ByteArray × β)} {b : Nat} {mv : Value} {t : TypeId} {W : World} {r : List ByteArray} (A : W.heap[b]? = some (.cells #[mv] t (0, 0))) (hm : tN Value.string vf (hp W) mv l) (hk : DZ l = some r) :
  lJ false P (ρt.f 6) [.func (.func (ρk.f 10)) #[] #[.pointer (some ⟨b, 0, none⟩)]] W (ρt.t 26) Bb 1 r := by
 unfold DZ at hk
 split at hk
 case isFalse => cases hk
 rename_i hc
 obtain ⟨Y, Z, a1⟩ := hc
 cases hk
 have j : b < W.heap.size := (dl.1 A).1
 have d : W.cell? ⟨b, 0, none⟩ = some mv := by simp [World.cell?, A]
 have u : AnyZ.SortsIn P ρt Fence.wide 4 :=
  ⟨fun Q off cap i W hH hblk z => iF.2 (by rw [h9]; exact AnyM.slices_Sort_string LM Q off cap i W hH hblk z), fun p cap W => iF.2 (by rw [h9]; exact AnyM.slices_Sort_string_none LM p cap W)⟩
 have M : SeqGives Fence.wide 2 P (ρk.f 10) #[.pointer (some ⟨b, 0, none⟩)] encStr (fun i => i.Perm ((l.map (·.1)).map fun b => b.data.toList)) l.length W := by
  rcases hm with ⟨rfl, rfl⟩ | ⟨m, es, clock, rfl, a8, G⟩
  ·have := AnyZ.keys_gives_nil (ρ := ρk) { LK with } Fence.wide 2 trivial rfl b W j d
   intro l' J W' T R U O
   refine CallsIn.mono (this l' J W' T R U O) ?_
   rintro e w' ⟨hv, i, rfl, hj⟩
   exact ⟨hv, [], bX _, hj⟩
  ·obtain ⟨D, I, s, z⟩ := HQ hK G Y Z (by unfold maxLen; omega) a8
   have := AnyZ.keys_gives (ρ := ρk) { LK with } Fence.wide 2 trivial rfl (by omega) b m es.size D W j d I
   intro l' J W' T R U O
   refine CallsIn.mono (this l' J W' T R (by rw [z]; exact U) O) ?_
   rintro e w' ⟨hv, i, hp, hj⟩
   refine ⟨hv, i, ?_, hj⟩
   rw [ep]
   exact hp.trans s
 have cS := AnyZ.sorted_in LT Fence.wide 5 trivial trivial trivial trivial rfl (by omega) u es (ρk.f 10) #[.pointer (some ⟨b, 0, none⟩)] trivial eg _ l.length (by unfold maxLen; omega) a1 W M
 refine cR (iF.1 cS) ?_
 rintro e w' ⟨v, i, rfl, hS, L, ab, c⟩
 have hs := F2 hS
 have hlen : i.length = (sn (l.map (·.1))).length := by
  have := bA List.length hs
  simpa using this
 have q : (i.mergeSort (fun x y => decide (x ≤ y))).map encStr = ((sn (l.map (·.1))).map Bb).flatten := by
  rw [hs, Nq, ep]
  refine List.map_congr_left (fun x _ => ?_)
  simp only [Function.comp, encStr]
 rcases L.2 with ⟨rfl, O⟩ | ⟨g, cap, E, rfl, n, hg, ad, a6, a7, aa⟩
 ·have : sn (l.map (·.1)) = [] := aN (by omega)
  rw [this]
  exact ⟨_, [], rfl, rr.Gh ⟨c.os, c.tape, c.output, fun h => (by cases h), c.size, fun b A => c.block b A⟩ (fun _ _ h => by cases h) (by simp), jw.nil _ _ _⟩
 ·refine ⟨_, [(g, .cells E (ρt.t 26) (0, 0))], rfl, rr.Gh ⟨c.os, c.tape, c.output, fun h => (by cases h), c.size, fun b A => c.block b A⟩ (fun b o h => by simp at h; obtain ⟨rfl, rfl⟩ := h; exact ⟨hg, n⟩) (by simp), .inr ⟨g, cap, E, by rw [hlen], rfl, by omega, a6, a7, ?_⟩⟩
  rw [← hlen, aa, q]
end
end Go.Proofs.YtjjjihkifgdhgaaGreatDoor
namespace Go.Proofs.YtjjjihkifgdhgaaGreatDoor
open Go.IntKind renaming wrap → wi0
open Go.RowKit
theorem Jl {P : Program} {ρ : Go.Shelf.Ren} (L : Go.Proofs.LaysM.n171 P ρ) {f : FuncId} (l : ρ.f 171 = f) {n : Int} {r : ByteArray} {w : World} (m : zH P (hp w)) (hm : xf n = some r) : jO true P f [.int .i64 n] w (.string r) := by
 unfold xf at hm
 split at hm
 case isFalse => cases hm
 rename_i h
 cases hm
 subst l
 obtain ⟨g, T, fr, h1, d⟩ := m
 have c : Go.Lib.TabIs P w "internal/strconv.uint64pow10" .u64 Go.Lib.pow10Tab := by
  unfold Go.Lib.TabIs World.var?
  have i : w.heap[g]? = _ := d
  rw [h1]
  simp [i]
 refine cR (Go.Proofs.Any.strconv_Itoa L n h.1 h.2 w c) fun e W o => ?_
 obtain ⟨rfl, k, os, rfl⟩ := o
 refine ⟨rfl, rfl, rfl, rfl, qI.of ?_, ?_, fun b j => ?_⟩
 ·simp [Go.Sort.grow, World.drewN]
 ·simp [Go.Sort.grow, World.drewN]
 ·simp only [Go.Sort.grow, World.drewN]
  rw [Array.getElem?_append_left j]
end Go.Proofs.YtjjjihkifgdhgaaGreatDoor
namespace Go.Proofs.YtjjjihkifgdhgaaGreatDoor
open Go.IntKind renaming wrap → wi0
def eH := @Tryz.underlying9
def eS := @Tryz.zeroValue9
def fp := @Tryz.underlying0
def fH := @Tryz.zeroValue0
def fY := @Tryz.sizeOf9
def gl := @Tryz.underlying4
def gu := @Tryz.isAgg9
def gz := @Tryz.zeroValue4
def gF := @Tryz.sizeOf0
def gO := @Tryz.underlying271
def gP := @Tryz.underlying332
def gQ := @Tryz.underlying272
def gS := @Tryz.underlying152
def gZ := @Tryz.isAgg0
def ib := @Tryz.zeroValue271
def ic := @Tryz.zeroValue332
def ie := @Tryz.zeroValue272
def ig := @Tryz.zeroValue152
def iB := @Tryz.underlying3
def iC := @Tryz.underlying5
def iG := @Tryz.sizeOf4
def iJ := @Tryz.zeroValue3
def iK := @Tryz.zeroValue5
def iO := @Tryz.isAgg4
def Ke : Go.Shelf.Ren := ⟨fun | 6 => 198 | 15 => 260 | 14 => 259 | 28 => 319 | 29 => 307 | 20 => 311 | 21 => 312 | 22 => 313 | 23 => 314 | 24 => 315 | 25 => 316 | 26 => 317 | 27 => 318 | 46 => 356 | 47 => 357 | 48 => 358 | 49 => 359 | 50 => 360 | 57 => 377 | n => n, fun | 22 => 45 | 24 => 52 | 25 => 138 | 3 => 3 | 39 => 271 | 0 => 0 | 53 => 332 | 55 => 272 | 4 => 4 | 46 => 336 | 45 => 335 | 50 => 340 | 5 => 5 | 9 => 9 | 66 => 371 | 70 => 375 | 76 => 392 | 77 => 248 | n => n, fun | n => n⟩
theorem OD : Go.Proofs.SlLaysF0.n6 Tryz.prog Ke := {
 mixed := by kernel_rfl,
 f6 := ⟨Tryz.f198.name, by decide, Tryz.func198.trans (bA some (by kernel_rfl))⟩,
 f14 := ⟨Tryz.f259.name, by decide, Tryz.func259.trans (bA some (by kernel_rfl))⟩,
 f15 := Tryz.func260.trans (bA some (by kernel_rfl)),
 f20 := ⟨Tryz.f311.name, by decide, Tryz.func311.trans (bA some (by kernel_rfl))⟩,
 f21 := ⟨Tryz.f312.name, by decide, Tryz.func312.trans (bA some (by kernel_rfl))⟩,
 f22 := ⟨Tryz.f313.name, by decide, Tryz.func313.trans (bA some (by kernel_rfl))⟩,
 f23 := ⟨Tryz.f314.name, by decide, Tryz.func314.trans (bA some (by kernel_rfl))⟩,
 f24 := ⟨Tryz.f315.name, by decide, Tryz.func315.trans (bA some (by kernel_rfl))⟩,
 f25 := ⟨Tryz.f316.name, by decide, Tryz.func316.trans (bA some (by kernel_rfl))⟩,
 f26 := ⟨Tryz.f317.name, by decide, Tryz.func317.trans (bA some (by kernel_rfl))⟩,
 f27 := ⟨Tryz.f318.name, by decide, Tryz.func318.trans (bA some (by kernel_rfl))⟩,
 f28 := Tryz.func319.trans (bA some (by kernel_rfl)),
 f29 := Tryz.func307.trans (bA some (by kernel_rfl)),
 f46 := ⟨Tryz.f356.name, by decide, Tryz.func356.trans (bA some (by kernel_rfl))⟩,
 f47 := Tryz.func357.trans (bA some (by kernel_rfl)),
 f48 := Tryz.func358.trans (bA some (by kernel_rfl)),
 f49 := ⟨Tryz.f359.name, by decide, Tryz.func359.trans (bA some (by kernel_rfl))⟩,
 f50 := ⟨Tryz.f360.name, by decide, Tryz.func360.trans (bA some (by kernel_rfl))⟩,
 f57 := ⟨Tryz.f377.name, by decide, Tryz.func377.trans (bA some (by kernel_rfl))⟩,
 t0 := fp,
 a0 := gZ,
 z0 := gF,
 v0 := fH,
 t3 := iB,
 a3 := Tryz.isAgg3,
 z3 := Tryz.sizeOf3,
 v3 := iJ,
 t4 := gl,
 a4 := iO,
 z4 := iG,
 v4 := gz,
 t5 := iC,
 a5 := Tryz.isAgg5,
 z5 := Tryz.sizeOf5,
 v5 := iK,
 t9 := eH,
 a9 := gu,
 z9 := fY,
 v9 := eS,
 t22 := Tryz.underlying45,
 a22 := Tryz.isAgg45,
 z22 := Tryz.sizeOf45,
 v22 := Tryz.zeroValue45,
 t25 := Tryz.underlying138,
 a25 := Tryz.isAgg138,
 z25 := Tryz.sizeOf138,
 v25 := Tryz.zeroValue138,
 t39 := gO,
 a39 := Tryz.isAgg271,
 z39 := Tryz.sizeOf271,
 v39 := ib,
 t45 := Tryz.underlying335,
 a45 := Tryz.isAgg335,
 z45 := Tryz.sizeOf335,
 v45 := Tryz.zeroValue335,
 t46 := Tryz.underlying336,
 a46 := Tryz.isAgg336,
 z46 := Tryz.sizeOf336,
 v46 := Tryz.zeroValue336,
 t50 := Tryz.underlying340,
 a50 := Tryz.isAgg340,
 z50 := Tryz.sizeOf340,
 v50 := Tryz.zeroValue340,
 t53 := gP,
 a53 := Tryz.isAgg332,
 z53 := Tryz.sizeOf332,
 v53 := ic,
 t55 := gQ,
 a55 := Tryz.isAgg272,
 z55 := Tryz.sizeOf272,
 v55 := ie,
 t66 := Tryz.underlying371,
 a66 := Tryz.isAgg371,
 z66 := Tryz.sizeOf371,
 v66 := Tryz.zeroValue371,
 t70 := Tryz.underlying375,
 a70 := Tryz.isAgg375,
 z70 := Tryz.sizeOf375,
 v70 := Tryz.zeroValue375,
 t76 := Tryz.underlying392,
 a76 := Tryz.isAgg392,
 z76 := Tryz.sizeOf392,
 v76 := Tryz.zeroValue392,
 t77 := Tryz.underlying248,
 a77 := Tryz.isAgg248,
 z77 := Tryz.sizeOf248,
 v77 := Tryz.zeroValue248}
def NH : Go.Shelf.Ren := ⟨fun | 6 => 379 | 8 => 260 | 9 => 387 | 19 => 319 | 20 => 307 | 21 => 391 | 22 => 392 | 23 => 393 | 24 => 394 | 25 => 395 | 26 => 396 | 27 => 397 | 28 => 398 | 29 => 399 | 36 => 401 | 31 => 357 | 32 => 358 | 37 => 402 | 38 => 403 | 39 => 404 | 41 => 405 | n => n, fun | 27 => 152 | 29 => 9 | 3 => 3 | 32 => 271 | 26 => 152 | 0 => 0 | 44 => 332 | 46 => 272 | 4 => 4 | 36 => 336 | 35 => 335 | 41 => 340 | 5 => 5 | 9 => 9 | 53 => 371 | 57 => 375 | 63 => 392 | 64 => 248 | n => n, fun | n => n⟩
theorem Oi : Go.Proofs.SlLaysM.n6 Tryz.prog NH := {
 mixed := by kernel_rfl,
 f6 := ⟨Tryz.f379.name, by decide, Tryz.func379.trans (bA some (by kernel_rfl))⟩,
 f8 := Tryz.func260.trans (bA some (by kernel_rfl)),
 f9 := ⟨Tryz.f387.name, by decide, Tryz.func387.trans (bA some (by kernel_rfl))⟩,
 f19 := Tryz.func319.trans (bA some (by kernel_rfl)),
 f20 := Tryz.func307.trans (bA some (by kernel_rfl)),
 f21 := ⟨Tryz.f391.name, by decide, Tryz.func391.trans (bA some (by kernel_rfl))⟩,
 f22 := ⟨Tryz.f392.name, by decide, Tryz.func392.trans (bA some (by kernel_rfl))⟩,
 f23 := ⟨Tryz.f393.name, by decide, Tryz.func393.trans (bA some (by kernel_rfl))⟩,
 f24 := ⟨Tryz.f394.name, by decide, Tryz.func394.trans (bA some (by kernel_rfl))⟩,
 f25 := ⟨Tryz.f395.name, by decide, Tryz.func395.trans (bA some (by kernel_rfl))⟩,
 f26 := ⟨Tryz.f396.name, by decide, Tryz.func396.trans (bA some (by kernel_rfl))⟩,
 f27 := ⟨Tryz.f397.name, by decide, Tryz.func397.trans (bA some (by kernel_rfl))⟩,
 f28 := ⟨Tryz.f398.name, by decide, Tryz.func398.trans (bA some (by kernel_rfl))⟩,
 f29 := ⟨Tryz.f399.name, by decide, Tryz.func399.trans (bA some (by kernel_rfl))⟩,
 f31 := Tryz.func357.trans (bA some (by kernel_rfl)),
 f32 := Tryz.func358.trans (bA some (by kernel_rfl)),
 f36 := ⟨Tryz.f401.name, by decide, Tryz.func401.trans (bA some (by kernel_rfl))⟩,
 f37 := ⟨Tryz.f402.name, by decide, Tryz.func402.trans (bA some (by kernel_rfl))⟩,
 f38 := ⟨Tryz.f403.name, by decide, Tryz.func403.trans (bA some (by kernel_rfl))⟩,
 f39 := ⟨Tryz.f404.name, by decide, Tryz.func404.trans (bA some (by kernel_rfl))⟩,
 f41 := ⟨Tryz.f405.name, by decide, Tryz.func405.trans (bA some (by kernel_rfl))⟩,
 t0 := fp,
 a0 := gZ,
 z0 := gF,
 v0 := fH,
 t3 := iB,
 a3 := Tryz.isAgg3,
 z3 := Tryz.sizeOf3,
 v3 := iJ,
 t4 := gl,
 a4 := iO,
 z4 := iG,
 v4 := gz,
 t5 := iC,
 a5 := Tryz.isAgg5,
 z5 := Tryz.sizeOf5,
 v5 := iK,
 t9 := eH,
 a9 := gu,
 z9 := fY,
 v9 := eS,
 t26 := gS,
 a26 := Tryz.isAgg152,
 z26 := Tryz.sizeOf152,
 v26 := ig,
 t27 := gS,
 a27 := Tryz.isAgg152,
 z27 := Tryz.sizeOf152,
 v27 := ig,
 t29 := eH,
 a29 := gu,
 z29 := fY,
 v29 := eS,
 t32 := gO,
 a32 := Tryz.isAgg271,
 z32 := Tryz.sizeOf271,
 v32 := ib,
 t35 := Tryz.underlying335,
 a35 := Tryz.isAgg335,
 z35 := Tryz.sizeOf335,
 v35 := Tryz.zeroValue335,
 t36 := Tryz.underlying336,
 a36 := Tryz.isAgg336,
 z36 := Tryz.sizeOf336,
 v36 := Tryz.zeroValue336,
 t41 := Tryz.underlying340,
 a41 := Tryz.isAgg340,
 z41 := Tryz.sizeOf340,
 v41 := Tryz.zeroValue340,
 t44 := gP,
 a44 := Tryz.isAgg332,
 z44 := Tryz.sizeOf332,
 v44 := ic,
 t46 := gQ,
 a46 := Tryz.isAgg272,
 z46 := Tryz.sizeOf272,
 v46 := ie,
 t53 := Tryz.underlying371,
 a53 := Tryz.isAgg371,
 z53 := Tryz.sizeOf371,
 v53 := Tryz.zeroValue371,
 t57 := Tryz.underlying375,
 a57 := Tryz.isAgg375,
 z57 := Tryz.sizeOf375,
 v57 := Tryz.zeroValue375,
 t63 := Tryz.underlying392,
 a63 := Tryz.isAgg392,
 z63 := Tryz.sizeOf392,
 v63 := Tryz.zeroValue392,
 t64 := Tryz.underlying248,
 a64 := Tryz.isAgg248,
 z64 := Tryz.sizeOf248,
 v64 := Tryz.zeroValue248}
def Nc : Go.Shelf.Ren := ⟨fun | 7 => 362 | 10 => 380 | n => n, fun | 23 => 247 | 26 => 9 | 3 => 4 | 28 => 379 | 0 => 0 | 27 => 378 | 33 => 148 | 4 => 4 | n => n, fun | n => n⟩
theorem M8 : Go.Proofs.SlLaysZ.n7 Tryz.prog Nc := {
 mixed := by kernel_rfl,
 f7 := ⟨Tryz.f362.name, by decide, Tryz.func362.trans (bA some (by kernel_rfl))⟩,
 f10 := ⟨Tryz.f380.name, by decide, Tryz.func380.trans (bA some (by kernel_rfl))⟩,
 t0 := fp,
 a0 := gZ,
 z0 := gF,
 v0 := fH,
 t4 := gl,
 a4 := iO,
 z4 := iG,
 v4 := gz,
 t23 := Tryz.underlying247,
 a23 := Tryz.isAgg247,
 z23 := Tryz.sizeOf247,
 v23 := Tryz.zeroValue247,
 t26 := eH,
 a26 := gu,
 z26 := fY,
 v26 := eS,
 t27 := Tryz.underlying378,
 a27 := Tryz.isAgg378,
 z27 := Tryz.sizeOf378,
 v27 := Tryz.zeroValue378,
 t28 := Tryz.underlying379,
 a28 := Tryz.isAgg379,
 z28 := Tryz.sizeOf379,
 v28 := Tryz.zeroValue379,
 t33 := Tryz.underlying148,
 a33 := Tryz.isAgg148,
 z33 := Tryz.sizeOf148,
 v33 := Tryz.zeroValue148}
def MD : Go.Shelf.Ren := ⟨fun | 6 => 361 | 8 => 378 | 9 => 379 | 11 => 386 | 13 => 260 | 12 => 387 | 23 => 319 | 24 => 307 | 14 => 391 | 15 => 392 | 16 => 393 | 17 => 394 | 18 => 395 | 19 => 396 | 20 => 397 | 21 => 398 | 22 => 399 | 25 => 401 | 26 => 357 | 27 => 358 | 28 => 402 | 29 => 403 | 30 => 404 | 31 => 405 | n => n, fun | 26 => 9 | 28 => 379 | 24 => 152 | 0 => 0 | 3 => 3 | 37 => 271 | 48 => 332 | 50 => 272 | 4 => 4 | 40 => 336 | 39 => 335 | 45 => 340 | 5 => 5 | 9 => 9 | 51 => 371 | 55 => 375 | 57 => 392 | 58 => 248 | 33 => 148 | n => n, fun | n => n⟩
theorem MG : Go.Proofs.SlLaysZ.n6 Tryz.prog MD := {
 mixed := by kernel_rfl,
 f6 := ⟨Tryz.f361.name, by decide, Tryz.func361.trans (bA some (by kernel_rfl))⟩,
 f8 := ⟨Tryz.f378.name, by decide, Tryz.func378.trans (bA some (by kernel_rfl))⟩,
 f11 := ⟨Tryz.f386.name, by decide, Tryz.func386.trans (bA some (by kernel_rfl))⟩,
 t0 := fp,
 a0 := gZ,
 z0 := gF,
 v0 := fH,
 t24 := gS,
 a24 := Tryz.isAgg152,
 z24 := Tryz.sizeOf152,
 v24 := ig,
 t26 := eH,
 a26 := gu,
 z26 := fY,
 v26 := eS,
 t28 := Tryz.underlying379,
 a28 := Tryz.isAgg379,
 z28 := Tryz.sizeOf379,
 v28 := Tryz.zeroValue379,
 i26 := by kernel_rfl}
def N7 : Go.Shelf.Ren := ⟨fun | 171 => 50 | 243 => 122 | 246 => 190 | 283 => 250 | 284 => 251 | 285 => 252 | 286 => 253 | 129 => 307 | 317 => 306 | 318 => 308 | 319 => 309 | 320 => 310 | 337 => 354 | 338 => 355 | n => n, fun | 3 => 3 | 9 => 9 | 2 => 2 | 4 => 4 | 171 => 291 | 0 => 0 | 53 => 272 | 37 => 53 | 5 => 5 | 173 => 294 | 212 => 331 | 51 => 332 | 20 => 20 | 213 => 333 | 46 => 271 | 232 => 390 | 233 => 391 | n => n, fun | 17 => 3 | 18 => 4 | 19 => 5 | n => n⟩
theorem Oe : Go.Proofs.LaysM.n171 Tryz.prog N7 := {
 mixed := by kernel_rfl,
 f129 := Tryz.func307.trans (bA some (by kernel_rfl)),
 f171 := Tryz.func50.trans (bA some (by kernel_rfl)),
 f243 := Tryz.func122.trans (bA some (by kernel_rfl)),
 f246 := Tryz.func190.trans (bA some (by kernel_rfl)),
 f283 := Tryz.func250.trans (bA some (by kernel_rfl)),
 f284 := Tryz.func251.trans (bA some (by kernel_rfl)),
 f285 := Tryz.func252.trans (bA some (by kernel_rfl)),
 f286 := Tryz.func253.trans (bA some (by kernel_rfl)),
 f317 := Tryz.func306.trans (bA some (by kernel_rfl)),
 f318 := Tryz.func308.trans (bA some (by kernel_rfl)),
 f319 := Tryz.func309.trans (bA some (by kernel_rfl)),
 f320 := Tryz.func310.trans (bA some (by kernel_rfl)),
 f337 := Tryz.func354.trans (bA some (by kernel_rfl)),
 f338 := Tryz.func355.trans (bA some (by kernel_rfl)),
 t0 := fp,
 a0 := gZ,
 z0 := gF,
 v0 := fH,
 t2 := Tryz.underlying2,
 a2 := Tryz.isAgg2,
 z2 := Tryz.sizeOf2,
 v2 := Tryz.zeroValue2,
 t3 := iB,
 a3 := Tryz.isAgg3,
 z3 := Tryz.sizeOf3,
 v3 := iJ,
 t4 := gl,
 a4 := iO,
 z4 := iG,
 v4 := gz,
 t5 := iC,
 a5 := Tryz.isAgg5,
 z5 := Tryz.sizeOf5,
 v5 := iK,
 t9 := eH,
 a9 := gu,
 z9 := fY,
 v9 := eS,
 t20 := Tryz.underlying20,
 a20 := Tryz.isAgg20,
 z20 := Tryz.sizeOf20,
 v20 := Tryz.zeroValue20,
 t37 := Tryz.underlying53,
 a37 := Tryz.isAgg53,
 z37 := Tryz.sizeOf53,
 v37 := Tryz.zeroValue53,
 t46 := gO,
 a46 := Tryz.isAgg271,
 z46 := Tryz.sizeOf271,
 v46 := ib,
 t51 := gP,
 a51 := Tryz.isAgg332,
 z51 := Tryz.sizeOf332,
 v51 := ic,
 t53 := gQ,
 a53 := Tryz.isAgg272,
 z53 := Tryz.sizeOf272,
 v53 := ie,
 t171 := Tryz.underlying291,
 a171 := Tryz.isAgg291,
 z171 := Tryz.sizeOf291,
 v171 := Tryz.zeroValue291,
 t173 := Tryz.underlying294,
 a173 := Tryz.isAgg294,
 z173 := Tryz.sizeOf294,
 v173 := Tryz.zeroValue294,
 t212 := Tryz.underlying331,
 a212 := Tryz.isAgg331,
 z212 := Tryz.sizeOf331,
 v212 := Tryz.zeroValue331,
 t213 := Tryz.underlying333,
 a213 := Tryz.isAgg333,
 z213 := Tryz.sizeOf333,
 t232 := Tryz.underlying390,
 a232 := Tryz.isAgg390,
 z232 := Tryz.sizeOf390,
 v232 := Tryz.zeroValue390,
 t233 := Tryz.underlying391,
 a233 := Tryz.isAgg391,
 z233 := Tryz.sizeOf391,
 v233 := Tryz.zeroValue391,
 g17 := by kernel_rfl,
 g18 := by kernel_rfl,
 g19 := by kernel_rfl,
 i0 := by kernel_rfl,
 i2 := by kernel_rfl,
 i3 := by kernel_rfl,
 i4 := by kernel_rfl,
 i5 := by kernel_rfl,
 i9 := by kernel_rfl,
 i20 := by kernel_rfl,
 i37 := by kernel_rfl,
 i46 := by kernel_rfl,
 i51 := by kernel_rfl,
 i53 := by kernel_rfl,
 i171 := by kernel_rfl,
 i173 := by kernel_rfl,
 i212 := by kernel_rfl,
 i232 := by kernel_rfl,
 i233 := by kernel_rfl,
 m17 := by kernel_rfl,
 m18 := by kernel_rfl,
 m19 := by kernel_rfl}
end Go.Proofs.YtjjjihkifgdhgaaGreatDoor
namespace Go.Proofs.YtjjjihkifgdhgaaGreatDoor
open Go.IntKind renaming wrap → wi0
open Go.RowKit
set_option maxRecDepth 10000
noncomputable section
structure iX where
 ja : ByteArray
 Word : ByteArray
def jf (x : iX) : List Value := [.string x.ja, .string x.Word]
def jr (x y : iX) : Bool := (jP x.ja y.ja) && ((jP x.Word y.Word) && true)
theorem js {x y : iX} : jr x y = true ↔ x = y := by
 cases x; cases y; simp [jr, kU]
theorem Am (x : iX) : (jf x).length = 2 := rfl
theorem vL (x : iX) : ∀ u ∈ jf x, u.oneCell' = true := by
 intro u hu
 simp only [jf, aM, dm, fj] at hu
 rcases hu with rfl | rfl <;> rfl
structure iY where
 Kind : Int
 Head : iX
 jM : ByteArray
 B : iX
 C : iX
 ki : ByteArray
def jb (x : iY) : List Value := [.int .i64 x.Kind, .string x.Head.ja, .string x.Head.Word, .string x.jM, .string x.B.ja, .string x.B.Word, .string x.C.ja, .string x.C.Word, .string x.ki]
def kh (x y : iY) : Bool := (x.Kind == y.Kind) && ((jr x.Head y.Head) && ((jP x.jM y.jM) && ((jr x.B y.B) && ((jr x.C y.C) && ((jP x.ki y.ki) && true)))))
theorem qa {x y : iY} : kh x y = true ↔ x = y := by
 cases x; cases y; simp [kh, kU, js]
theorem kA (x : iY) : (jb x).length = 9 := rfl
theorem py (x : iY) : ∀ u ∈ jb x, u.oneCell' = true := by
 intro u hu
 simp only [jb, aM, dm, fj] at hu
 rcases hu with rfl | rfl | rfl | rfl | rfl | rfl | rfl | rfl | rfl <;> rfl
structure jg where
 iX : iX
 jM : ByteArray
def kF (x : jg) : List Value := [.string x.iX.ja, .string x.iX.Word, .string x.jM]
def yr (x y : jg) : Bool := (jr x.iX y.iX) && ((jP x.jM y.jM) && true)
theorem uP {x y : jg} : yr x y = true ↔ x = y := by
 cases x; cases y; simp [yr, kU, js]
theorem vA (x : jg) : (kF x).length = 3 := rfl
theorem Ie (x : jg) : ∀ u ∈ kF x, u.oneCell' = true := by
 intro u hu
 simp only [kF, aM, dm, fj] at hu
 rcases hu with rfl | rfl | rfl <;> rfl
structure Ap where
 Mo : Int
 Mi : Int
structure jF where
 e : Int
def ko (x : jF) : List Value := [.int .i64 x.e]
structure lQ where
 Oz : Bool
structure Key where
 jM : ByteArray
 Key : List Int
structure Signed where
 iY : iY
 Tag : List Int
structure Formula where
 Op : Int
 K : Int
 iX : iX
 Kids : List Formula
structure kP where
 Signed : Signed
 ji : Formula
structure nA where
 iX : iX
 ji : Formula
 mn : List iY
structure jL where
 Name : ByteArray
 jv : List kP
 ke : List nA
structure wc where
 ja : jL
 Client : jL
 Formula : Formula
 IW : Int
 zA : Ap
 CA : Int
 Gi : Int
 Eo : Int
 Keys : List Key
def nn (a0 : ByteArray) (b : Int) : Option Int :=
 some (uF a0 b)
def pJ (a0 : ByteArray) (b : Int) : Option Int :=
 ((nn a0 b).bind fun c => some c)
def sk  : List Int → Option Bool
 | [] => some true
 | d :: b => ((pJ (⟨#[97, 98, 99, 100, 101, 102, 103, 104, 105, 106, 107, 108, 109, 110, 111, 112, 113, 114, 115, 116, 117, 118, 119, 120, 121, 122, 48, 49, 50, 51, 52, 53, 54, 55, 56, 57, 45]⟩ : ByteArray) d).bind fun c => (if (decide (c < 0)) then some false else (sk b)))
def zL (a0 : ByteArray) : Option Bool :=
 ((AB a0).bind fun b => sk b)
def qc (a0 : ByteArray) : Option Bool :=
 ((if (decide ((a0.size : Int) ≥ 1)) then some (decide ((a0.size : Int) ≤ 16)) else some false).bind fun x2 => ((if x2 then ((xT a0 0).bind fun b => ((pJ (⟨#[97, 98, 99, 100, 101, 102, 103, 104, 105, 106, 107, 108, 109, 110, 111, 112, 113, 114, 115, 116, 117, 118, 119, 120, 121, 122]⟩ : ByteArray) (b.toNat : Int)).bind fun d => some (decide (d ≥ 0)))) else some false).bind fun g => ((if g then ((zL a0).bind fun c => some c) else some false).bind fun h => some h)))
def rD (a0 : List Int) : Option (List Int) :=
 ((kN 1 ([]) a0).bind fun b => some b)
def oz (a0 : iX) : Option Bool :=
 ((qc a0.ja).bind fun d => ((if d then ((qc a0.Word).bind fun b => some b) else some false).bind fun c => some c))
def my (a0 b : ByteArray) : Option Int :=
 some (nQ a0 b)
def ob (a0 b : ByteArray) : Option Int :=
 ((my a0 b).bind fun c => some c)
def qi  : List Int → Option Int
 | [] => some 0
 | b :: c => (if (b != 0) then some b else (qi c))
def sC (a0 : List Int) : Option Int :=
 qi a0
def pL (a0 g : iX) : Option Int :=
 ((ob a0.ja g.ja).bind fun b => ((ob a0.Word g.Word).bind fun c => ((sC ([b, c])).bind fun d => some d)))
def qY (a0 : iY) : Option Bool :=
 ((oz a0.Head).bind fun y => (((if (a0.Kind == 1) then ((if y then ((qc a0.jM).bind fun c => some c) else some false).bind fun p => some (Sum.inr (p, (⟨a0.Kind, a0.Head, a0.jM, (⟨zS, zS⟩ : iX), (⟨zS, zS⟩ : iX), zS⟩ : iY)))) else (if (a0.Kind == 2) then ((if y then ((oz a0.B).bind fun d => some d) else some false).bind fun q => some (Sum.inr (q, (⟨a0.Kind, a0.Head, zS, a0.B, (⟨zS, zS⟩ : iX), zS⟩ : iY)))) else (if (a0.Kind == 3) then ((if y then ((oz a0.B).bind fun h => some h) else some false).bind fun r => ((if r then some (jP a0.B.ja a0.Head.ja) else some false).bind fun t => ((if t then ((qc a0.ki).bind fun g => some g) else some false).bind fun u => some (Sum.inr (u, (⟨a0.Kind, a0.Head, zS, a0.B, (⟨zS, zS⟩ : iX), a0.ki⟩ : iY)))))) else (if (a0.Kind == 4) then ((if y then ((oz a0.B).bind fun l => some l) else some false).bind fun v => ((if v then ((oz a0.C).bind fun j => some j) else some false).bind fun w => ((if w then ((pL a0.B a0.C).bind fun i => some (decide (i < 0))) else some false).bind fun x => some (Sum.inr (x, (⟨a0.Kind, a0.Head, zS, a0.B, a0.C, zS⟩ : iY)))))) else some (Sum.inl false))))) : Option (Bool ⊕ (Bool × iY))).bind fun s => match s with | .inl b => some b | .inr (m, n) => ((if m then some (kh n a0) else some false).bind fun o => some o)))
def ov  : Nat → Int → (List Int) → Option (Bool × (List Int))
 | 0, _, _ => none
 | h + 1, b, d => (if (decide (b ≥ 128)) then ((kN 1 d ([(IntKind.u8.wrap (BitVec.ofInt (IntKind.bits .u8) (IntKind.u8.wrap b) ||| BitVec.ofInt (IntKind.bits .u8) 128).toNat)])).bind fun g => (ov h (Int.fdiv b (2 ^ min (Int.toNat 7) (IntKind.bits .i64))) g)) else ((kN 1 d ([(IntKind.u8.wrap b)])).bind fun c => some (true, c)))
def mQ (b : List Int) (c : Int) : Option (Bool × (List Int)) :=
 (if (decide (c < 0)) then some (false, b) else ov jB c b)
def uN (b c : List Int) : Option (Bool × (List Int)) :=
 (if (decide ((c.length : Int) > 2048)) then some (false, b) else ((mQ b (c.length : Int)).bind fun g => ((kN 1 g.2 c).bind fun d => some (true, d))))
def qV (b : List Int) (i : ByteArray) : Option (Bool × (List Int)) :=
 ((qc i).bind fun j => (((if j then ((AB i).bind fun g => ((uN b g).bind fun c => some (c.1, c.2))) else some (false, b)) : Option (Bool × (List Int))).bind fun (h, d) => some (h, d)))
def ox (b : List Int) (h : iX) : Option (Bool × (List Int)) :=
 ((oz h).bind fun m => (((if m then ((qV b h.ja).bind fun g => some (g.1, g.2)) else some (false, b)) : Option (Bool × (List Int))).bind fun (j, c) => (((if j then ((qV c h.Word).bind fun d => some (d.1, d.2)) else some (false, c)) : Option (Bool × (List Int))).bind fun (l, i) => some (l, i))))
def qU (b : List Int) : Option (List Int) :=
 ((rD b).bind fun c => some c)
def tX (a0 : iY) : Option (List Int) :=
 ((qY a0).bind fun n => (if (!n) then some [] else ((mQ ([]) a0.Kind).bind fun o => ((ox o.2 a0.Head).bind fun b => (((if (a0.Kind == 1) then ((qV b.2 a0.jM).bind fun g => some g.2) else (if (a0.Kind == 2) then ((ox b.2 a0.B).bind fun h => some h.2) else (if (a0.Kind == 3) then ((ox b.2 a0.B).bind fun i => ((qV i.2 a0.ki).bind fun j => some j.2)) else (if (a0.Kind == 4) then ((ox b.2 a0.B).bind fun l => ((ox l.2 a0.C).bind fun m => some m.2)) else some b.2)))) : Option (List Int)).bind fun c => ((qU c).bind fun d => some d))))))
def pG (a0 : List iY) : Option (List iY) :=
 ((kN 136 ([]) a0).bind fun b => some b)
def nt (f1 : iY → Option Bool) : List iY → Nat → Option Int
 | [], _ => some (-1)
 | d :: b, i35 => ((f1 d).bind fun c => (if c then some (i35 : Int) else (nt f1 b (i35 + 1))))
def nW (a0 : List iY) (f1 : iY → Option Bool) : Option Int :=
 nt f1 a0 0
def mz (f1 : iY → Option Bool) : Nat → (List iY) → Int → Int → Option (List iY)
 | 0, _, _, _ => none
 | n321 + 1, c, b, d => (if (decide (d < (c.length : Int))) then ((((kp c d).bind fun g => ((f1 g).bind fun i => (if (!i) then ((kp c b).bind fun l => some ((c.set (Int.toNat b) g), (wi0 .i64 (b + 1)))) else some (c, b)))) : Option ((List iY) × Int)).bind fun (h, j) => (mz f1 n321 h j (wi0 .i64 (d + 1)))) else ((pH (decide (0 ≤ b) && decide (b ≤ (c.length : Int)))).bind fun _ => ((pH (decide (0 ≤ b) && decide (b ≤ ((nv c (Int.toNat b) (⟨0, (⟨zS, zS⟩ : iX), zS, (⟨zS, zS⟩ : iX), (⟨zS, zS⟩ : iX), zS⟩ : iY)).length : Int)))).bind fun _ => some ((nv c (Int.toNat b) (⟨0, (⟨zS, zS⟩ : iX), zS, (⟨zS, zS⟩ : iX), (⟨zS, zS⟩ : iX), zS⟩ : iY)).take (Int.toNat b)))))
def pu (a0 : List iY) (f1 : iY → Option Bool) : Option (List iY) :=
 ((nW a0 f1).bind fun b => (if (b == (-1)) then some a0 else mz f1 jB a0 b (wi0 .i64 (b + 1))))
def vg (a0 : iY) : Option Bool :=
 ((qY a0).bind fun b => some (!b))
def tQ (a0 b : List Int) : Option Int :=
 some (vC a0 b)
def qO (a0 g : iY) : Option Int :=
 ((tX a0).bind fun b => ((tX g).bind fun c => ((tQ b c).bind fun d => some d)))
def mV (c : Int) : Nat → (List iY) → Int → Int → Option ((List iY) × Int)
 | 0, _, _, _ => none
 | i + 1, b, d, g => (if (decide (g < ((b.length - (Int.toNat c) : Nat) : Int))) then ((((kp (b.drop (Int.toNat c)) g).bind fun l => ((kp (b.drop (Int.toNat c)) (wi0 .i64 (g - 1))).bind fun m => (if (!(kh l m)) then ((kp (b.drop (Int.toNat c)) g).bind fun n => ((kp b d).bind fun o => some ((b.set (Int.toNat d) n), (wi0 .i64 (d + 1))))) else some (b, d)))) : Option ((List iY) × Int)).bind fun (h, j) => (mV c i h j (wi0 .i64 (g + 1)))) else some (b, d))
def mX (a0 : List iY) : Nat → Int → Option (List iY)
 | 0, _ => none
 | g + 1, b => (if (decide (b < (a0.length : Int))) then ((kp a0 b).bind fun h => ((kp a0 (wi0 .i64 (b - 1))).bind fun i => (if (kh h i) then ((pH (decide (0 ≤ b) && decide (b ≤ (a0.length : Int)))).bind fun _ => ((mV b jB a0 b 1).bind fun (d, c) => ((pH (decide (0 ≤ c) && decide (c ≤ (d.length : Int)))).bind fun _ => ((pH (decide (0 ≤ c) && decide (c ≤ ((nv d (Int.toNat c) (⟨0, (⟨zS, zS⟩ : iX), zS, (⟨zS, zS⟩ : iX), (⟨zS, zS⟩ : iX), zS⟩ : iY)).length : Int)))).bind fun _ => some ((nv d (Int.toNat c) (⟨0, (⟨zS, zS⟩ : iX), zS, (⟨zS, zS⟩ : iX), (⟨zS, zS⟩ : iX), zS⟩ : iY)).take (Int.toNat c)))))) else (mX a0 g (wi0 .i64 (b + 1)))))) else some a0)
def qk (a0 : List iY) : Option (List iY) :=
 (if (decide ((a0.length : Int) < 2)) then some a0 else mX a0 jB 1)
def wA (a0 : List iY) : Option (List iY) :=
 ((pG a0).bind fun g => ((pu g (fun (x : iY) => vg x)).bind fun b => ((xh (fun (x : (iY × iY)) => qO x.1 x.2) b).bind fun c => ((qk c).bind fun d => some d))))
def ow (d : iY) : List iY → Nat → Option Int
 | [], _ => some (-1)
 | c :: b, i46 => (if (kh d c) then some (i46 : Int) else (ow d b (i46 + 1)))
def tF (a0 : List iY) (b : iY) : Option Int :=
 ow b a0 0
def pW (a0 : List iY) (b : iY) : Option Bool :=
 ((tF a0 b).bind fun c => some (decide (c ≥ 0)))
def oH (a0 : List iY) (b : iY) : Option Bool :=
 ((pW a0 b).bind fun c => some c)
def wm (a0 : iY) : Option (List iX) :=
 ((qY a0).bind fun h => (if (!h) then some [] else (((if (a0.Kind != 1) then ((kN 32 ([a0.Head]) ([a0.B])).bind fun g => some g) else some ([a0.Head])) : Option (List iX)).bind fun b => (((if (a0.Kind == 4) then ((kN 32 b ([a0.C])).bind fun d => some d) else some b) : Option (List iX)).bind fun c => some c))))
def nl (i : iY) (b : List (ByteArray × (List iY))) (g : List iY) : List iX → (List (iX × (List iY))) → Option ((List iY) × (List (iX × (List iY))) × (List (ByteArray × (List iY))))
 | [], c => (if (i.Kind == 3) then ((kN 136 ((jX jP b i.ki).getD []) ([i])).bind fun l => some (g, c, (mS jP b i.ki l))) else some (g, c, b))
 | d :: h, c => ((kN 136 ((jX jr c d).getD []) ([i])).bind fun j => (nl i b g h (mS jr c d j)))
def qC (i : List (iX × (List (ByteArray × Bool)))) (b : List iY) (d : List (iX × (List iY))) (c : List (ByteArray × (List iY))) (g : List jg) (m : Int) (j : iY) : Option ((List iY) × (List (iX × (List iY))) × (List (ByteArray × (List iY)))) :=
 ((kN 136 b ([j])).bind fun l => ((wm j).bind fun h => ((pH (decide (0 ≤ 1) && decide (1 ≤ (h.length : Int)))).bind fun _ => nl j c l (h.drop (Int.toNat 1)) d)))
def mK (b : List (iX × (List (ByteArray × Bool)))) (g : List iY) (i : List (iX × (List iY))) (h : List (ByteArray × (List iY))) (c : List jg) (d : Int) (j : iX) (a2 : ByteArray) : Option ((List (iX × (List (ByteArray × Bool)))) × (List jg) × Int) :=
 (if (xi jP ((jX jr b j).getD []) a2 false) then some (b, c, d) else (((if (jX jr b j).isNone then ((DM jr b j ([])).bind fun l => some l) else some b) : Option (List (iX × (List (ByteArray × Bool))))).bind fun m => ((DJ jr jP m j a2 true).bind fun n => ((kN 48 c ([(⟨j, a2⟩ : jg)])).bind fun o => some (n, o, (wi0 .i64 (d + 1)))))))
def nu (a0 : List (ByteArray × Bool)) : Option Unit :=
 some ()
def oT (b : List (iX × (List (ByteArray × Bool)))) (c : List iY) (h : List (iX × (List iY))) (d : List (ByteArray × (List iY))) (g : List jg) (j : Int) (l : iX) : Option (List ByteArray) :=
 ((nu ((jX jr b l).getD [])).bind fun m => ((DZ ((jX jr b l).getD [])).bind fun i => some i))
def oB (b : List iY) (d : List (iX × (List iY))) (c : List (ByteArray × (List iY))) (a2 : iX) : List ByteArray → (List (iX × (List (ByteArray × Bool)))) → (List jg) → Int → Option ((List (iX × (List (ByteArray × Bool)))) × (List jg) × Int)
 | [], g, h, j => some (g, h, j)
 | m :: l, g, h, j => ((mK g b d c h j a2 m).bind fun i => (oB b d c a2 l i.1 i.2.1 i.2.2))
def rp (h : List (iX × (List (ByteArray × Bool)))) (b : List iY) (g : List (iX × (List iY))) (c : List (ByteArray × (List iY))) (d : List jg) (i : Int) (j a2 : iX) : Option ((List (iX × (List (ByteArray × Bool)))) × (List jg) × Int) :=
 ((oT h b g c d i j).bind fun l => oB b g c a2 l h d i)
def pI (b : List (iX × (List (ByteArray × Bool)))) (d : List iY) (h : List (iX × (List iY))) (g : List (ByteArray × (List iY))) (c : List jg) (i : Int) (j : iY) (a2 : jg) : Option ((List (iX × (List (ByteArray × Bool)))) × (List jg) × Int) :=
 (if (j.Kind == 2) then ((mK b d h g c i j.Head a2.jM).bind fun n => some (n.1, n.2.1, n.2.2)) else (if (j.Kind == 3) then ((rp b d h g c i (⟨a2.jM, j.ki⟩ : iX) j.Head).bind fun l => some (l.1, l.2.1, l.2.2)) else (if (j.Kind == 4) then ((if (xi jP ((jX jr b j.B).getD []) a2.jM false) then some (xi jP ((jX jr b j.C).getD []) a2.jM false) else some false).bind fun o => (if o then ((mK b d h g c i j.Head a2.jM).bind fun m => some (m.1, m.2.1, m.2.2)) else some (b, c, i))) else some (b, c, i))))
def nO (b : List iY) (d : List (iX × (List iY))) (c : List (ByteArray × (List iY))) (n : iY) : List ByteArray → (List (iX × (List (ByteArray × Bool)))) → (List jg) → Int → Option ((List (iX × (List (ByteArray × Bool)))) × (List jg) × Int)
 | [], g, h, j => some (g, h, j)
 | m :: l, g, h, j => ((pI g b d c h j n (⟨n.B, m⟩ : jg)).bind fun i => (nO b d c n l i.1 i.2.1 i.2.2))
def qj (h : List (iX × (List (ByteArray × Bool)))) (b : List iY) (g : List (iX × (List iY))) (c : List (ByteArray × (List iY))) (d : List jg) (i : Int) (j : iY) : Option ((List (iX × (List (ByteArray × Bool)))) × (List jg) × Int) :=
 (if (j.Kind == 1) then ((mK h b g c d i j.Head j.jM).bind fun m => some (m.1, m.2.1, m.2.2)) else ((oT h b g c d i j.B).bind fun l => nO b g c j l h d i))
def mN (i : jg) (b : List iY) (d : List (iX × (List iY))) (c : List (ByteArray × (List iY))) : List iY → (List (iX × (List (ByteArray × Bool)))) → (List jg) → Int → Option ((List (iX × (List (ByteArray × Bool)))) × (List jg) × Int)
 | [], g, h, j => some (g, h, j)
 | n :: m, g, h, j => (if (xi jP ((jX jr g n.B).getD []) i.iX.ja false) then ((mK g b d c h j n.Head i.jM).bind fun l => (mN i b d c m l.1 l.2.1 l.2.2)) else (mN i b d c m g h j))
def nF (b : List iY) (d : List (iX × (List iY))) (c : List (ByteArray × (List iY))) (l : jg) : List iY → (List (iX × (List (ByteArray × Bool)))) → (List jg) → Int → Option ((List (iX × (List (ByteArray × Bool)))) × (List jg) × Int)
 | [], g, h, j => some (g, h, j)
 | n :: m, g, h, j => ((pI g b d c h j n l).bind fun i => (nF b d c l m i.1 i.2.1 i.2.2))
def mj (d : List iY) (c : List (iX × (List iY))) (b : List (ByteArray × (List iY))) : Nat → (List (iX × (List (ByteArray × Bool)))) → (List jg) → Int → Option ((List (iX × (List (ByteArray × Bool)))) × (List jg) × Int)
 | 0, _, _, _ => none
 | p + 1, i, g, j => (if (decide ((g.length : Int) > 0)) then ((kp g 0).bind fun h => ((pH (decide (0 ≤ 1) && decide (1 ≤ (g.length : Int)))).bind fun _ => ((nF d c b h ((jX jr c h.iX).getD []) i (g.drop (Int.toNat 1)) j).bind fun (l, m, q) => ((mN h d c b ((jX jP b h.iX.Word).getD []) l m q).bind fun (n, o, r) => (mj d c b p n o r))))) else some (i, g, j))
def rW (h : List (iX × (List (ByteArray × Bool)))) (b : List iY) (g : List (iX × (List iY))) (c : List (ByteArray × (List iY))) (d : List jg) (i : Int) : Option ((List (iX × (List (ByteArray × Bool)))) × (List jg) × Int) :=
 mj b g c jB h d i
def mL (n : Int) : List iY → (List (iX × (List (ByteArray × Bool)))) → (List iY) → (List (iX × (List iY))) → (List (ByteArray × (List iY))) → (List jg) → Int → Option (Int × (List (iX × (List (ByteArray × Bool)))) × (List iY) × (List (iX × (List iY))) × (List (ByteArray × (List iY))) × (List jg) × Int)
 | [], d, b, g, h, i, j => ((rW d b g h i j).bind fun l => some ((wi0 .i64 (l.2.2 - n)), l.1, b, g, h, l.2.1, l.2.2))
 | m :: p, d, b, g, h, i, j => ((qY m).bind fun q => ((if q then ((oH b m).bind fun r => some (!r)) else some false).bind fun s => (if s then ((qC d b g h i j m).bind fun c => ((qj d c.1 c.2.1 c.2.2 i j m).bind fun o => (mL n p o.1 c.1 c.2.1 c.2.2 o.2.1 o.2.2))) else (mL n p d b g h i j))))
def rn (h : List (iX × (List (ByteArray × Bool)))) (b : List iY) (g : List (iX × (List iY))) (c : List (ByteArray × (List iY))) (d : List jg) (i : Int) (j : List iY) : Option (Int × (List (iX × (List (ByteArray × Bool)))) × (List iY) × (List (iX × (List iY))) × (List (ByteArray × (List iY))) × (List jg) × Int) :=
 mL i j h b g c d i
def uv (a0 : List iY) : Option ((List (iX × (List (ByteArray × Bool)))) × (List iY) × (List (iX × (List iY))) × (List (ByteArray × (List iY))) × (List jg) × Int) :=
 ((rn ([]) ([]) ([]) ([]) ([]) 0 a0).bind fun b => some (b.2.1, b.2.2.1, b.2.2.2.1, b.2.2.2.2.1, b.2.2.2.2.2.1, b.2.2.2.2.2.2))
def oA (a0 g : jg) : Option Int :=
 ((pL a0.iX g.iX).bind fun b => ((ob a0.jM g.jM).bind fun c => ((sC ([b, c])).bind fun d => some d)))
def tE (c : List (iX × (List (ByteArray × Bool)))) (d : List iY) (i : List (iX × (List iY))) (g : List (ByteArray × (List iY))) (h : List jg) (l : Int) : Option (List jg) :=
 ((J4 48 (fun (a : iX) (b : ByteArray) => (⟨a, b⟩ : jg)) c).bind fun m => BW m (fun j => ((xh (fun (x : (jg × jg)) => oA x.1 x.2) j).bind fun n => some n)))
def ri (b : List (iX × (List (ByteArray × Bool)))) (c : List iY) (h : List (iX × (List iY))) (d : List (ByteArray × (List iY))) (g : List jg) (i : Int) (j : iX) (a2 : ByteArray) : Option Bool :=
 some (xi jP ((jX jr b j).getD []) a2 false)
def rc  : List iY → Int → Option Int
 | [], c => some c
 | b :: d, c => (rc d (wi0 .i64 (c + (wi0 .i64 ((wi0 .i64 ((wi0 .i64 ((wi0 .i64 ((wi0 .i64 ((wi0 .i64 ((wi0 .i64 ((wi0 .i64 (20 + (b.Head.ja.size : Int))) + (b.Head.Word.size : Int))) + (b.jM.size : Int))) + (b.B.ja.size : Int))) + (b.B.Word.size : Int))) + (b.C.ja.size : Int))) + (b.C.Word.size : Int))) + (b.ki.size : Int))))))
def Bu (a0 : List iY) : Option Int :=
 rc a0 0
def sZ  : List Signed → Int → Option Int
 | [], b => some b
 | c :: d, b => ((Bu ([c.iY])).bind fun g => (sZ d (wi0 .i64 (b + (wi0 .i64 (g + (c.Tag.length : Int)))))))
def vq (h : List Signed) : List Key → Int → Option Int
 | [], b => ((sZ h b).bind fun c => some c)
 | d :: g, b => (vq h g (wi0 .i64 (b + (wi0 .i64 ((wi0 .i64 (10 + (d.jM.size : Int))) + (d.Key.length : Int))))))
def Bx (a0 : List Key) (b : List Signed) : Option Int :=
 vq b a0 0
def qT (a0 : ByteArray) : Nat → Int → Option Bool
 | 0, _ => none
 | d + 1, c => (if (decide (c < (a0.size : Int))) then ((xT a0 c).bind fun b => ((if (decide ((b.toNat : Int) < 97)) then some true else some (decide ((b.toNat : Int) > 122))).bind fun g => ((if g then ((if (decide ((b.toNat : Int) < 48)) then some true else some (decide ((b.toNat : Int) > 57))).bind fun j => some j) else some false).bind fun h => ((if h then some ((b.toNat : Int) != 45) else some false).bind fun i => (if i then some false else (qT a0 d (wi0 .i64 (c + 1)))))))) else some true)
def qu (a0 : ByteArray) : Option Bool :=
 ((if (jP a0 zS) then some true else some (decide ((a0.size : Int) > 16))).bind fun x2 => ((if x2 then some true else ((xT a0 0).bind fun c => some (decide ((c.toNat : Int) < 97)))).bind fun d => ((if d then some true else ((xT a0 0).bind fun b => some (decide ((b.toNat : Int) > 122)))).bind fun g => (if g then some false else qT a0 jB 0))))
def ru (a0 : iX) : Option Bool :=
 ((qu a0.ja).bind fun d => ((if d then ((qu a0.Word).bind fun b => some b) else some false).bind fun c => some c))
def wz (a0 b : iX) : Option Bool :=
 ((if (oJ a0.ja b.ja) then some true else ((if (jP a0.ja b.ja) then some (oJ a0.Word b.Word) else some false).bind fun d => some d)).bind fun c => some c)
def vd (a0 : iY) : Option Bool :=
 ((ru a0.Head).bind fun t => (if (!t) then some false else (if (a0.Kind == 1) then ((qu a0.jM).bind fun i => ((if i then some (jr a0.B (⟨zS, zS⟩ : iX)) else some false).bind fun l => ((if l then some (jr a0.C (⟨zS, zS⟩ : iX)) else some false).bind fun m => ((if m then some (jP a0.ki zS) else some false).bind fun n => some n)))) else ((if (!(jP a0.jM zS)) then some true else ((ru a0.B).bind fun d => some (!d))).bind fun o => (if o then some false else (if (a0.Kind == 2) then ((if (jr a0.C (⟨zS, zS⟩ : iX)) then some (jP a0.ki zS) else some false).bind fun p => some p) else (if (a0.Kind == 3) then ((if (jr a0.C (⟨zS, zS⟩ : iX)) then some (jP a0.B.ja a0.Head.ja) else some false).bind fun q => ((if q then ((qu a0.ki).bind fun j => some j) else some false).bind fun r => some r)) else ((if (a0.Kind == 4) then some (jP a0.ki zS) else some false).bind fun s => ((if s then ((ru a0.C).bind fun c => some c) else some false).bind fun g => ((if g then ((wz a0.B a0.C).bind fun b => some b) else some false).bind fun h => some h))))))))))
def uM  : Nat → Int → ByteArray → Option ByteArray
 | 0, _, _ => none
 | n45 + 1, b, c => (if (decide (b ≥ 128)) then ((oN c (IE ([(IntKind.u8.wrap (wi0 .i64 (128 + (Int.tmod b 128))))]))).bind fun d => (uM n45 (wi0 .i64 (Int.tdiv b 128)) d)) else ((oN c (IE ([(IntKind.u8.wrap b)]))).bind fun g => some g))
def pT (a0 : Int) : Option ByteArray :=
 uM jB a0 zS
def sE (a0 : ByteArray) : Option ByteArray :=
 ((pT (a0.size : Int)).bind fun b => ((oN b a0).bind fun c => some c))
def rB (a0 : iX) : Option ByteArray :=
 ((sE a0.ja).bind fun b => ((sE a0.Word).bind fun c => ((oN b c).bind fun d => some d)))
def Bs (a0 : iY) : Option ByteArray :=
 ((pT a0.Kind).bind fun g => ((rB a0.Head).bind fun h => ((oN g h).bind fun b => (if (a0.Kind == 1) then ((sE a0.jM).bind fun i => ((oN b i).bind fun n => some n)) else ((rB a0.B).bind fun j => ((oN b j).bind fun c => (((if (a0.Kind == 3) then ((sE a0.ki).bind fun m => ((oN c m).bind fun p => some p)) else some c) : Option ByteArray).bind fun d => (((if (a0.Kind == 4) then ((rB a0.C).bind fun l => ((oN d l).bind fun o => some o)) else some d) : Option ByteArray).bind fun q => some q))))))))
def vc (a0 : iY) : Option ByteArray :=
 ((vd a0).bind fun b => (if (!b) then some zS else ((Bs a0).bind fun c => some c)))
def rJ (a0 d : iY) : Option Int :=
 ((vc a0).bind fun b => ((vc d).bind fun c => (if (oJ b c) then some (-1) else (if (!(oJ b c || jP b c)) then some 1 else some 0))))
def qP (b : List iY) : List iY → Bool → iY → Option (Bool × iY)
 | [], d, g => some (d, g)
 | c :: h, d, g => ((vd c).bind fun i => ((if i then ((if ((b.length : Int) == 0) then some true else ((kp b (wi0 .i64 ((b.length : Int) - 1))).bind fun q => ((rJ q c).bind fun l => some (decide (l < 0))))).bind fun p => some p) else some false).bind fun m => ((if m then ((if (!d) then some true else ((rJ c g).bind fun j => some (decide (j < 0)))).bind fun o => some o) else some false).bind fun n => (if n then (qP b h true c) else (qP b h d g)))))
def ur (a0 : List iY) : Nat → (List iY) → Option (List iY)
 | 0, _ => none
 | d + 1, b => ((qP b a0 false (⟨0, (⟨zS, zS⟩ : iX), zS, (⟨zS, zS⟩ : iX), (⟨zS, zS⟩ : iX), zS⟩ : iY)).bind fun (g, h) => (if (!g) then some b else ((kN 136 b ([h])).bind fun c => (ur a0 d c))))
def xq (a0 : List iY) : Option (List iY) :=
 ur a0 jB ([])
def rG (g : List iY) : List iY → Nat → Option Bool
 | [], _ => some true
 | d :: c, i90 => ((kp g (i90 : Int)).bind fun b => (if (!(kh d b)) then some false else (rG g c (i90 + 1))))
def uf (a0 b : List iY) : Option Bool :=
 (if ((a0.length : Int) != (b.length : Int)) then some false else rG b a0 0)
def wW (d : iY) : List iY → Option Bool
 | [] => some false
 | c :: b => (if (kh c d) then some true else (wW d b))
def tm (a0 : List iY) (b : iY) : Option Bool :=
 wW b a0
def qM (b : List ByteArray) : List ByteArray → ByteArray → Option ByteArray
 | [], d => some d
 | c :: g, d => ((qu c).bind fun i => ((if i then ((if ((b.length : Int) == 0) then some true else ((kp b (wi0 .i64 ((b.length : Int) - 1))).bind fun h => some (!(oJ c h || jP c h)))).bind fun n => some n) else some false).bind fun j => ((if j then ((if (jP d zS) then some true else some (oJ c d)).bind fun m => some m) else some false).bind fun l => (if l then (qM b g c) else (qM b g d)))))
def uE (a0 : List ByteArray) : Nat → (List ByteArray) → Option (List ByteArray)
 | 0, _ => none
 | g + 1, b => ((qM b a0 zS).bind fun c => (if (jP c zS) then some b else ((kN 16 b ([c])).bind fun d => (uE a0 g d))))
def zP (a0 : List ByteArray) : Option (List ByteArray) :=
 uE a0 jB ([])
def rf  : List iY → (List ByteArray) → Option (List ByteArray)
 | [], c => ((zP c).bind fun g => some g)
 | b :: h, c => ((kN 16 c ([b.jM, b.Head.ja, b.B.ja, b.C.ja])).bind fun d => (rf h d))
def xL (a0 : List iY) : Option (List ByteArray) :=
 rf a0 ([])
def uZ (g : iX) (a2 : ByteArray) : List jg → Option Bool
 | [] => some false
 | c :: d => ((if (jr c.iX g) then some (jP c.jM a2) else some false).bind fun b => (if b then some true else (uZ g a2 d)))
def ta (a0 : List jg) (b : iX) (a2 : ByteArray) : Option Bool :=
 uZ b a2 a0
def tM (a0 : List jg) (i : iY) (a3 : ByteArray) : List ByteArray → Option Bool
 | [] => some false
 | b :: c => ((ta a0 i.B b).bind fun d => ((if d then ((ta a0 (⟨b, i.ki⟩ : iX) a3).bind fun g => some g) else some false).bind fun h => (if h then some true else (tM a0 i a3 c))))
def yB (a0 : List jg) (b : iY) (a2 : List ByteArray) (a3 : ByteArray) : Option Bool :=
 (if (b.Kind == 1) then some (jP b.jM a3) else (if (b.Kind == 2) then ((ta a0 b.B a3).bind fun g => some g) else (if (b.Kind == 4) then ((ta a0 b.B a3).bind fun h => ((if h then ((ta a0 b.C a3).bind fun c => some c) else some false).bind fun d => some d)) else tM a0 b a3 a2)))
def si (a0 b : jg) : Option Bool :=
 ((wz a0.iX b.iX).bind fun g => ((if g then some true else ((if (jr a0.iX b.iX) then some (oJ a0.jM b.jM) else some false).bind fun d => some d)).bind fun c => some c))
def od (c a0 : List jg) : List jg → Nat → Int → Option Int
 | [], _, b => some b
 | h :: g, d, b => ((if ((c.length : Int) == 0) then some true else ((kp c (wi0 .i64 ((c.length : Int) - 1))).bind fun p => ((si p h).bind fun j => some j))).bind fun l => ((if l then ((if (decide (b < 0)) then some true else ((kp a0 b).bind fun o => ((si h o).bind fun i => some i))).bind fun n => some n) else some false).bind fun m => (if m then (od c a0 g (d + 1) (d : Int)) else (od c a0 g (d + 1) b))))
def nZ (a0 : List jg) : List jg → (List jg) → Option (List jg)
 | [], b => some b
 | i :: d, b => ((od b a0 a0 0 (-1)).bind fun c => (if (decide (c ≥ 0)) then ((kp a0 c).bind fun h => ((kN 48 b ([h])).bind fun g => (nZ a0 d g))) else (nZ a0 d b)))
def Aq (a0 : List jg) : Option (List jg) :=
 nZ a0 a0 ([])
def tj (c : iY) (n : List ByteArray) : List ByteArray → (List jg) → Bool → Option ((List jg) × Bool)
 | [], b, g => some (b, g)
 | d :: h, b, g => ((ta b c.Head d).bind fun j => ((if (!j) then ((yB b c n d).bind fun l => some l) else some false).bind fun m => (if m then ((kN 48 b ([(⟨c.Head, d⟩ : jg)])).bind fun i => (tj c n h i true)) else (tj c n h b g))))
def vj (j : List ByteArray) : List iY → (List jg) → Bool → Option ((List jg) × Bool)
 | [], b, c => some (b, c)
 | h :: d, b, c => ((tj h j j b c).bind fun (g, i) => (vj j d g i))
def vl (i : List ByteArray) (j : List iY) : Nat → (List jg) → Option (List jg)
 | 0, _ => none
 | c + 1, h => ((vj i j h false).bind fun (b, g) => (if (!g) then ((Aq b).bind fun d => some d) else (vl i j c b)))
def uq (a0 : List iY) : Option (List jg) :=
 ((xq a0).bind fun c => ((xL c).bind fun b => vl b c jB ([])))
def sL (a0 : List iY) (c : ByteArray) : Option ((List (iX × (List (ByteArray × Bool)))) × (List iY) × (List (iX × (List iY))) × (List (ByteArray × (List iY))) × (List jg) × Int × ByteArray) :=
 ((uv a0).bind fun b => some (b.1, b.2.1, b.2.2.1, b.2.2.2.1, b.2.2.2.2.1, b.2.2.2.2.2, c))
def mc (f1 : kP → Option Bool) : List kP → Nat → Option Int
 | [], _ => some (-1)
 | d :: b, i47 => ((f1 d).bind fun c => (if c then some (i47 : Int) else (mc f1 b (i47 + 1))))
def qn (a0 : List kP) (f1 : kP → Option Bool) : Option Int :=
 mc f1 a0 0
def tG (a0 : kP) (b : iY) : Option Bool :=
 some (kh a0.Signed.iY b)
def wg (a0 : jL) (d : iY) : Option (kP × Bool) :=
 ((qn a0.jv (fun (x : kP) => tG x d)).bind fun b => (if (decide (b < 0)) then some ((⟨(⟨(⟨0, (⟨zS, zS⟩ : iX), zS, (⟨zS, zS⟩ : iX), (⟨zS, zS⟩ : iX), zS⟩ : iY), []⟩ : Signed), (⟨0, 0, (⟨zS, zS⟩ : iX), []⟩ : Formula)⟩ : kP), false) else ((kp a0.jv b).bind fun c => some (c, true))))
def rE (a0 : List nA) : Option (List nA) :=
 ((kN 128 ([]) a0).bind fun b => some b)
def mM (f1 : nA → Option Bool) : List nA → Nat → Option Int
 | [], _ => some (-1)
 | d :: b, i47 => ((f1 d).bind fun c => (if c then some (i47 : Int) else (mM f1 b (i47 + 1))))
def rZ (a0 : List nA) (f1 : nA → Option Bool) : Option Int :=
 mM f1 a0 0
def mC (f1 : nA → Option Bool) : Nat → (List nA) → Int → Int → Option (List nA)
 | 0, _, _, _ => none
 | i + 1, c, b, d => (if (decide (d < (c.length : Int))) then ((((kp c d).bind fun g => ((f1 g).bind fun j => (if (!j) then ((kp c b).bind fun m => some ((c.set (Int.toNat b) g), (wi0 .i64 (b + 1)))) else some (c, b)))) : Option ((List nA) × Int)).bind fun (h, l) => (mC f1 i h l (wi0 .i64 (d + 1)))) else ((pH (decide (0 ≤ b) && decide (b ≤ (c.length : Int)))).bind fun _ => ((pH (decide (0 ≤ b) && decide (b ≤ ((nv c (Int.toNat b) (⟨(⟨zS, zS⟩ : iX), (⟨0, 0, (⟨zS, zS⟩ : iX), []⟩ : Formula), []⟩ : nA)).length : Int)))).bind fun _ => some ((nv c (Int.toNat b) (⟨(⟨zS, zS⟩ : iX), (⟨0, 0, (⟨zS, zS⟩ : iX), []⟩ : Formula), []⟩ : nA)).take (Int.toNat b)))))
def pF (a0 : List nA) (f1 : nA → Option Bool) : Option (List nA) :=
 ((rZ a0 f1).bind fun b => (if (b == (-1)) then some a0 else mC f1 jB a0 b (wi0 .i64 (b + 1))))
def pR (a0 : nA) (b : iY) : Option Bool :=
 ((oH a0.mn b).bind fun c => some (!c))
def uY (a0 : jL) (c : iY) : Option (List nA) :=
 ((rE a0.ke).bind fun d => ((pF d (fun (x : nA) => pR x c)).bind fun b => some b))
def nR (h : Int) (rec : Formula → Int → Option (Int × Int)) : List Formula → Int → Int → Option (Int × Int)
 | [], b, d => some (b, d)
 | i :: g, b, d => (if (decide (b > h)) then some (b, d) else ((rec i (wi0 .i64 (h - b))).bind fun c => (nR h rec g (wi0 .i64 (b + c.1)) (if c.2 > d then c.2 else d))))
def sV (rec : Formula → Int → Option (Int × Int)) (a0 : Formula) (d : Int) : Option (Int × Int) :=
 ((nR d rec a0.Kids 1 0).bind fun (b, c) => some (b, (wi0 .i64 (c + 1))))
def na : Nat → Formula → Int → Option (Int × Int)
 | 0 => fun _ _ => none
 | n + 1 => sV (na n)
def ul (a0 : Formula) : Option (Int × Int) :=
 ((na jB a0 4096).bind fun b => (if (decide (b.1 > 4096)) then some (0, 0) else some (b.1, b.2)))
def uD (a0 : Formula) : Option Bool :=
 (if (a0.Op == 1) then ((oz a0.iX).bind fun g => ((if g then some ((a0.Kids.length : Int) == 0) else some false).bind fun h => ((if h then some (a0.K == 0) else some false).bind fun i => some i))) else ((if (a0.Op == 2) then some (a0.Op == 2) else some (a0.Op == 3)).bind fun j => (if j then ((if (jr a0.iX (⟨zS, zS⟩ : iX)) then some (a0.K == 0) else some false).bind fun l => some l) else ((if (a0.Op == 4) then some (jr a0.iX (⟨zS, zS⟩ : iX)) else some false).bind fun m => ((if m then some (decide (a0.K ≥ 0)) else some false).bind fun b => ((if b then some (decide (a0.K ≤ (a0.Kids.length : Int))) else some false).bind fun c => ((if c then some (decide ((a0.Kids.length : Int) ≥ 1)) else some false).bind fun d => some d)))))))
def me (f1 : Formula → Option Bool) : List Formula → Nat → Option Int
 | [], _ => some (-1)
 | d :: b, i41 => ((f1 d).bind fun c => (if c then some (i41 : Int) else (me f1 b (i41 + 1))))
def qo (a0 : List Formula) (f1 : Formula → Option Bool) : Option Int :=
 me f1 a0 0
def mP (a0 : List Formula) (f1 : Formula → Option Bool) : Option Bool :=
 ((qo a0 f1).bind fun b => some (decide (b ≥ 0)))
def rK (rec : Formula → Option Bool) (a0 : Formula) : Option Bool :=
 ((rec a0).bind fun b => some (!b))
def sY (rec : Formula → Option Bool) (a0 : Formula) : Option Bool :=
 ((uD a0).bind fun d => ((if d then some (decide ((a0.Kids.length : Int) ≤ 8)) else some false).bind fun g => ((if g then ((mP a0.Kids (fun (x : Formula) => rK rec x)).bind fun b => some (!b)) else some false).bind fun c => some c)))
def po : Nat → Formula → Option Bool
 | 0 => fun _ => none
 | n + 1 => sY (po n)
def pn (a0 : Formula) : Option Bool :=
 ((ul a0).bind fun c => ((if (decide (c.1 ≥ 1)) then some (decide (c.1 ≤ 64)) else some false).bind fun h => ((if h then some (decide (c.2 ≤ 6)) else some false).bind fun d => ((if d then ((po jB a0).bind fun b => some b) else some false).bind fun g => some g))))
def qK (a0 : Formula) (b : Int) : Option Bool :=
 ((if (a0.Op == b) then some ((a0.Kids.length : Int) == 0) else some false).bind fun x6 => some x6)
def rT  : Option Formula :=
 some (⟨2, 0, (⟨zS, zS⟩ : iX), []⟩ : Formula)
def wJ  : Option Formula :=
 some (⟨3, 0, (⟨zS, zS⟩ : iX), []⟩ : Formula)
def oO (a0 : Int) : List Formula → (List Formula) → Option (List Formula)
 | [], b => some b
 | c :: d, b => (if (c.Op == a0) then ((kN 72 b c.Kids).bind fun g => (oO a0 d g)) else ((kN 72 b ([c])).bind fun h => (oO a0 d h)))
def xQ (a0 : Int) (b : List Formula) : Option (List Formula) :=
 oO a0 b ([])
def oX (a0 : Formula) (b : Int) : Option Bool :=
 ((qK a0 b).bind fun c => some c)
def qb (a0 : List Formula) : Option (List Formula) :=
 ((kN 72 ([]) a0).bind fun b => some b)
def kB (p : Int) (f3 : (Formula × Formula) → Option Int) : Nat → (List Formula) → Int → Option (List Formula)
 | 0, _, _ => none
 | h + 1, c, b => ((if (decide (b > p)) then ((kp c b).bind fun l => ((kp c (wi0 .i64 (b - 1))).bind fun m => ((f3 (l, m)).bind fun i => some (decide (i < 0))))) else some false).bind fun j => (if j then ((kp c (wi0 .i64 (b - 1))).bind fun g => ((kp c b).bind fun d => ((kp c b).bind fun n => ((kp (c.set (Int.toNat b) g) (wi0 .i64 (b - 1))).bind fun o => (kB p f3 h ((c.set (Int.toNat b) g).set (Int.toNat (wi0 .i64 (b - 1))) (⟨d.Op, d.K, d.iX, d.Kids⟩ : Formula)) (wi0 .i64 (b - 1))))))) else some c))
def kf (a2 h : Int) (f3 : (Formula × Formula) → Option Int) : Nat → (List Formula) → Int → Option (List Formula)
 | 0, _, _ => none
 | g + 1, c, b => (if (decide (b < a2)) then ((kB h f3 jB c b).bind fun d => (kf a2 h f3 g d (wi0 .i64 (b + 1)))) else some c)
def lW (a0 : List Formula) (b a2 : Int) (f3 : (Formula × Formula) → Option Int) : Option (List Formula) :=
 kf a2 b f3 jB a0 (wi0 .i64 (b + 1))
def kV (a3 a2 h : Int) : Nat → (List Formula) → Int → Option (List Formula)
 | 0, _, _ => none
 | i + 1, c, b => (if (decide (b < a3)) then ((kp c (wi0 .i64 (a2 + b))).bind fun g => ((kp c (wi0 .i64 (h + b))).bind fun d => ((kp c (wi0 .i64 (h + b))).bind fun j => ((kp (c.set (Int.toNat (wi0 .i64 (h + b))) g) (wi0 .i64 (a2 + b))).bind fun l => (kV a3 a2 h i ((c.set (Int.toNat (wi0 .i64 (h + b))) g).set (Int.toNat (wi0 .i64 (a2 + b))) (⟨d.Op, d.K, d.iX, d.Kids⟩ : Formula)) (wi0 .i64 (b + 1))))))) else some c)
def lP (a0 : List Formula) (b a2 a3 : Int) (f4 : (Formula × Formula) → Option Int) : Option (List Formula) :=
 kV a3 a2 b jB a0 0
def lm (a2 : Int) (f4 : (Formula × Formula) → Option Int) : Nat → (List Formula) → Int → Int → Option (List Formula)
 | 0, _, _, _ => none
 | n185 + 1, d, b, c => (if (b != c) then (if (decide (b > c)) then ((lP d (wi0 .i64 (a2 - b)) a2 c f4).bind fun g => (lm a2 f4 n185 g (wi0 .i64 (b - c)) c)) else ((lP d (wi0 .i64 (a2 - b)) (wi0 .i64 ((wi0 .i64 (a2 + c)) - b)) b f4).bind fun h => (lm a2 f4 n185 h b (wi0 .i64 (c - b))))) else ((lP d (wi0 .i64 (a2 - b)) a2 b f4).bind fun i => some i))
def lH (a0 : List Formula) (b a2 a3 : Int) (f4 : (Formula × Formula) → Option Int) : Option (List Formula) :=
 lm a2 f4 jB a0 (wi0 .i64 (a2 - b)) (wi0 .i64 (a3 - a2))
def kZ (h : Int) : Nat → (List Formula) → Int → Option (List Formula)
 | 0, _, _ => none
 | i + 1, c, b => (if (decide (b < (wi0 .i64 (h - 1)))) then ((kp c (wi0 .i64 (b + 1))).bind fun g => ((kp c b).bind fun d => ((kp c b).bind fun j => ((kp (c.set (Int.toNat b) g) (wi0 .i64 (b + 1))).bind fun l => (kZ h i ((c.set (Int.toNat b) g).set (Int.toNat (wi0 .i64 (b + 1))) (⟨d.Op, d.K, d.iX, d.Kids⟩ : Formula)) (wi0 .i64 (b + 1))))))) else some c)
def jU (a0 : List Formula) (j : Int) (f4 : (Formula × Formula) → Option Int) : Nat → Int → Int → Option (List Formula)
 | 0, _, _ => none
 | n325 + 1, b, c => (if (decide (b < c)) then ((kp a0 (wi0 .i64 (Int.fdiv (IntKind.u64.wrap (wi0 .i64 (b + c))) (2 ^ min (Int.toNat 1) (IntKind.bits .u64))))).bind fun h => ((kp a0 j).bind fun i => ((f4 (h, i)).bind fun g => (if (decide (g < 0)) then (jU a0 j f4 n325 (wi0 .i64 ((wi0 .i64 (Int.fdiv (IntKind.u64.wrap (wi0 .i64 (b + c))) (2 ^ min (Int.toNat 1) (IntKind.bits .u64)))) + 1)) c) else (jU a0 j f4 n325 b (wi0 .i64 (Int.fdiv (IntKind.u64.wrap (wi0 .i64 (b + c))) (2 ^ min (Int.toNat 1) (IntKind.bits .u64))))))))) else ((kZ b jB a0 j).bind fun d => some d))
def kY (g : Int) : Nat → (List Formula) → Int → Option (List Formula)
 | 0, _, _ => none
 | i + 1, c, b => (if (decide (b > g)) then ((kp c (wi0 .i64 (b - 1))).bind fun h => ((kp c b).bind fun d => ((kp c b).bind fun j => ((kp (c.set (Int.toNat b) h) (wi0 .i64 (b - 1))).bind fun l => (kY g i ((c.set (Int.toNat b) h).set (Int.toNat (wi0 .i64 (b - 1))) (⟨d.Op, d.K, d.iX, d.Kids⟩ : Formula)) (wi0 .i64 (b - 1))))))) else some c)
def jV (a0 : List Formula) (a2 : Int) (f4 : (Formula × Formula) → Option Int) : Nat → Int → Int → Option (List Formula)
 | 0, _, _ => none
 | d + 1, b, c => (if (decide (b < c)) then ((kp a0 a2).bind fun i => ((kp a0 (wi0 .i64 (Int.fdiv (IntKind.u64.wrap (wi0 .i64 (b + c))) (2 ^ min (Int.toNat 1) (IntKind.bits .u64))))).bind fun j => ((f4 (i, j)).bind fun h => (if (!(decide (h < 0))) then (jV a0 a2 f4 d (wi0 .i64 ((wi0 .i64 (Int.fdiv (IntKind.u64.wrap (wi0 .i64 (b + c))) (2 ^ min (Int.toNat 1) (IntKind.bits .u64)))) + 1)) c) else (jV a0 a2 f4 d b (wi0 .i64 (Int.fdiv (IntKind.u64.wrap (wi0 .i64 (b + c))) (2 ^ min (Int.toNat 1) (IntKind.bits .u64))))))))) else ((kY b jB a0 a2).bind fun g => some g))
def jI (a0 : List Formula) (d a3 a2 : Int) (f4 : (Formula × Formula) → Option Int) (rec : (List Formula) → Int → Int → Int → ((Formula × Formula) → Option Int) → Option (List Formula)) : Nat → Int → Int → Option (List Formula)
 | 0, _, _ => none
 | i + 1, b, c => (if (decide (b < c)) then ((kp a0 (wi0 .i64 ((wi0 .i64 ((wi0 .i64 ((wi0 .i64 (Int.fdiv (IntKind.u64.wrap (wi0 .i64 (d + a3))) (2 ^ min (Int.toNat 1) (IntKind.bits .u64)))) + a2)) - 1)) - (wi0 .i64 (Int.fdiv (IntKind.u64.wrap (wi0 .i64 (b + c))) (2 ^ min (Int.toNat 1) (IntKind.bits .u64))))))).bind fun o => ((kp a0 (wi0 .i64 (Int.fdiv (IntKind.u64.wrap (wi0 .i64 (b + c))) (2 ^ min (Int.toNat 1) (IntKind.bits .u64))))).bind fun p => ((f4 (o, p)).bind fun j => (if (!(decide (j < 0))) then (jI a0 d a3 a2 f4 rec i (wi0 .i64 ((wi0 .i64 (Int.fdiv (IntKind.u64.wrap (wi0 .i64 (b + c))) (2 ^ min (Int.toNat 1) (IntKind.bits .u64)))) + 1)) c) else (jI a0 d a3 a2 f4 rec i b (wi0 .i64 (Int.fdiv (IntKind.u64.wrap (wi0 .i64 (b + c))) (2 ^ min (Int.toNat 1) (IntKind.bits .u64))))))))) else ((((if (decide (b < a2)) then some (decide (a2 < (wi0 .i64 ((wi0 .i64 ((wi0 .i64 (Int.fdiv (IntKind.u64.wrap (wi0 .i64 (d + a3))) (2 ^ min (Int.toNat 1) (IntKind.bits .u64)))) + a2)) - b)))) else some false).bind fun s => (if s then ((lH a0 b a2 (wi0 .i64 ((wi0 .i64 ((wi0 .i64 (Int.fdiv (IntKind.u64.wrap (wi0 .i64 (d + a3))) (2 ^ min (Int.toNat 1) (IntKind.bits .u64)))) + a2)) - b)) f4).bind fun n => some n) else some a0)) : Option (List Formula)).bind fun g => ((((if (decide (d < b)) then some (decide (b < (wi0 .i64 (Int.fdiv (IntKind.u64.wrap (wi0 .i64 (d + a3))) (2 ^ min (Int.toNat 1) (IntKind.bits .u64)))))) else some false).bind fun r => (if r then ((rec g d b (wi0 .i64 (Int.fdiv (IntKind.u64.wrap (wi0 .i64 (d + a3))) (2 ^ min (Int.toNat 1) (IntKind.bits .u64)))) f4).bind fun m => some m) else some g)) : Option (List Formula)).bind fun h => ((if (decide ((wi0 .i64 (Int.fdiv (IntKind.u64.wrap (wi0 .i64 (d + a3))) (2 ^ min (Int.toNat 1) (IntKind.bits .u64)))) < (wi0 .i64 ((wi0 .i64 ((wi0 .i64 (Int.fdiv (IntKind.u64.wrap (wi0 .i64 (d + a3))) (2 ^ min (Int.toNat 1) (IntKind.bits .u64)))) + a2)) - b)))) then some (decide ((wi0 .i64 ((wi0 .i64 ((wi0 .i64 (Int.fdiv (IntKind.u64.wrap (wi0 .i64 (d + a3))) (2 ^ min (Int.toNat 1) (IntKind.bits .u64)))) + a2)) - b)) < a3)) else some false).bind fun q => (if q then ((rec h (wi0 .i64 (Int.fdiv (IntKind.u64.wrap (wi0 .i64 (d + a3))) (2 ^ min (Int.toNat 1) (IntKind.bits .u64)))) (wi0 .i64 ((wi0 .i64 ((wi0 .i64 (Int.fdiv (IntKind.u64.wrap (wi0 .i64 (d + a3))) (2 ^ min (Int.toNat 1) (IntKind.bits .u64)))) + a2)) - b)) a3 f4).bind fun l => some l) else some h)))))
def nJ (rec : (List Formula) → Int → Int → Int → ((Formula × Formula) → Option Int) → Option (List Formula)) (a0 : List Formula) (b a2 a3 : Int) (f4 : (Formula × Formula) → Option Int) : Option (List Formula) :=
 (if ((wi0 .i64 (a2 - b)) == 1) then jU a0 b f4 jB a2 a3 else (if ((wi0 .i64 (a3 - a2)) == 1) then jV a0 a2 f4 jB b a2 else (((if (decide (a2 > (wi0 .i64 (Int.fdiv (IntKind.u64.wrap (wi0 .i64 (b + a3))) (2 ^ min (Int.toNat 1) (IntKind.bits .u64)))))) then some ((wi0 .i64 ((wi0 .i64 ((wi0 .i64 (Int.fdiv (IntKind.u64.wrap (wi0 .i64 (b + a3))) (2 ^ min (Int.toNat 1) (IntKind.bits .u64)))) + a2)) - a3)), (wi0 .i64 (Int.fdiv (IntKind.u64.wrap (wi0 .i64 (b + a3))) (2 ^ min (Int.toNat 1) (IntKind.bits .u64))))) else some (b, a2)) : Option (Int × Int)).bind fun (c, d) => jI a0 b a3 a2 f4 rec jB c d)))
def kj : Nat → (List Formula) → Int → Int → Int → ((Formula × Formula) → Option Int) → Option (List Formula)
 | 0 => fun _ _ _ _ _ => none
 | n + 1 => nJ (kj n)
def lz (j c : Int) (f2 : (Formula × Formula) → Option Int) : Nat → (List Formula) → Int → Int → Option ((List Formula) × Int)
 | 0, _, _, _ => none
 | h + 1, g, d, b => (if (decide (b ≤ j)) then ((kj jB g d (wi0 .i64 (d + c)) b f2).bind fun i => (lz j c f2 h i b (wi0 .i64 (b + (wi0 .i64 (2 * c)))))) else some (g, d))
def kM (l : Int) (f2 : (Formula × Formula) → Option Int) : Nat → (List Formula) → Int → Option (List Formula)
 | 0, _, _ => none
 | i + 1, d, b => (if (decide (b < l)) then ((lz l b f2 jB d 0 (wi0 .i64 (2 * b))).bind fun (g, c) => (((if (decide ((wi0 .i64 (c + b)) < l)) then ((kj jB g c (wi0 .i64 (c + b)) l f2).bind fun j => some j) else some g) : Option (List Formula)).bind fun h => (kM l f2 i h (wi0 .i64 (b * 2))))) else some d)
def kK (j : Int) (f2 : (Formula × Formula) → Option Int) : Nat → (List Formula) → Int → Int → Option (List Formula)
 | 0, _, _, _ => none
 | n123 + 1, d, i, b => (if (decide (b ≤ j)) then ((lW d i b f2).bind fun g => (kK j f2 n123 g b (wi0 .i64 (b + 20)))) else ((lW d i j f2).bind fun h => ((kM j f2 jB h 20).bind fun c => some c)))
def pe (a0 : List Formula) (b : Int) (f2 : (Formula × Formula) → Option Int) : Option (List Formula) :=
 kK b f2 jB a0 0 20
def nx (a0 : List Formula) (f1 : (Formula × Formula) → Option Int) : Option (List Formula) :=
 ((pe a0 (a0.length : Int) f1).bind fun b => some b)
def oQ (rec : (List Int) → Formula → Option (List Int)) : List Formula → (List Int) → Option (List Int)
 | [], b => some b
 | g :: c, b => ((rec b g).bind fun d => (oQ rec c d))
def sW (rec : (List Int) → Formula → Option (List Int)) (c : List Int) (b : Formula) : Option (List Int) :=
 ((mQ c b.Op).bind fun i => (if (b.Op == 1) then ((ox i.2 b.iX).bind fun h => some h.2) else (((if (b.Op == 4) then ((mQ i.2 b.K).bind fun d => some d.2) else some i.2) : Option (List Int)).bind fun g => ((mQ g (b.Kids.length : Int)).bind fun j => oQ rec b.Kids j.2))))
def ot : Nat → (List Int) → Formula → Option (List Int)
 | 0 => fun _ _ => none
 | n + 1 => sW (ot n)
def tJ (b : List Int) (c : Formula) : Option (Bool × (List Int)) :=
 ((pn c).bind fun d => (if (!d) then some (false, b) else ((ot jB b c).bind fun g => some (true, g))))
def qw (a0 : Formula) : Option (List Int) :=
 ((tJ ([]) a0).bind fun c => ((qU c.2).bind fun b => some b))
def qv (a0 g : Formula) : Option Int :=
 ((qw a0).bind fun b => ((qw g).bind fun c => ((tQ b c).bind fun d => some d)))
def sr (a0 : List Formula) : Option (List Formula) :=
 ((qb a0).bind fun c => ((nx c (fun (x : (Formula × Formula)) => qv x.1 x.2)).bind fun b => some b))
def lF (c : Int) (f1 : (Formula × Formula) → Option Bool) : Nat → (List Formula) → Int → Int → Option ((List Formula) × Int)
 | 0, _, _, _ => none
 | i + 1, b, d, g => (if (decide (g < ((b.length - (Int.toNat c) : Nat) : Int))) then ((((kp (b.drop (Int.toNat c)) g).bind fun m => ((kp (b.drop (Int.toNat c)) (wi0 .i64 (g - 1))).bind fun n => ((f1 (m, n)).bind fun j => (if (!j) then ((kp (b.drop (Int.toNat c)) g).bind fun o => ((kp b d).bind fun p => some ((b.set (Int.toNat d) o), (wi0 .i64 (d + 1))))) else some (b, d))))) : Option ((List Formula) × Int)).bind fun (h, l) => (lF c f1 i h l (wi0 .i64 (g + 1)))) else some (b, d))
def lD (a0 : List Formula) (f1 : (Formula × Formula) → Option Bool) : Nat → Int → Option (List Formula)
 | 0, _ => none
 | g + 1, b => (if (decide (b < (a0.length : Int))) then ((kp a0 b).bind fun i => ((kp a0 (wi0 .i64 (b - 1))).bind fun j => ((f1 (i, j)).bind fun h => (if h then ((pH (decide (0 ≤ b) && decide (b ≤ (a0.length : Int)))).bind fun _ => ((lF b f1 jB a0 b 1).bind fun (d, c) => ((pH (decide (0 ≤ c) && decide (c ≤ (d.length : Int)))).bind fun _ => ((pH (decide (0 ≤ c) && decide (c ≤ ((nv d (Int.toNat c) (⟨0, 0, (⟨zS, zS⟩ : iX), []⟩ : Formula)).length : Int)))).bind fun _ => some ((nv d (Int.toNat c) (⟨0, 0, (⟨zS, zS⟩ : iX), []⟩ : Formula)).take (Int.toNat c)))))) else (lD a0 f1 g (wi0 .i64 (b + 1))))))) else some a0)
def nT (a0 : List Formula) (f1 : (Formula × Formula) → Option Bool) : Option (List Formula) :=
 (if (decide ((a0.length : Int) < 2)) then some a0 else lD a0 f1 jB 1)
def jS (h : List Formula) (f2 : (Formula × Formula) → Option Bool) : List Formula → Nat → Option Bool
 | [], _ => some true
 | g :: d, i95 => ((kp h (i95 : Int)).bind fun c => ((f2 (g, c)).bind fun b => (if (!b) then some false else (jS h f2 d (i95 + 1)))))
def lE (a0 b : List Formula) (f2 : (Formula × Formula) → Option Bool) : Option Bool :=
 (if ((a0.length : Int) != (b.length : Int)) then some false else jS b f2 a0 0)
def tD (rec : Formula → Formula → Option Bool) (a0 b : Formula) : Option Bool :=
 ((if (a0.Op == b.Op) then some (a0.K == b.K) else some false).bind fun d => ((if d then some (jr a0.iX b.iX) else some false).bind fun g => ((if g then ((lE a0.Kids b.Kids (fun (x : (Formula × Formula)) => rec x.1 x.2)).bind fun c => some c) else some false).bind fun h => some h)))
def mE : Nat → Formula → Formula → Option Bool
 | 0 => fun _ _ => none
 | n + 1 => tD (mE n)
def mT (a0 : jF) (d : Int) (a2 : List Formula) : Option (Formula × jF) :=
 ((xQ d a2).bind fun j => ((mP j (fun (x : Formula) => oX x (wi0 .i64 (5 - d)))).bind fun g => (if g then some ((⟨(wi0 .i64 (5 - d)), 0, (⟨zS, zS⟩ : iX), []⟩ : Formula), a0) else ((sr j).bind fun h => ((nT h (fun (x : (Formula × Formula)) => mE jB x.1 x.2)).bind fun b => (((if (decide ((b.length : Int) > 64)) then some (⟨12⟩ : jF) else some a0) : Option jF).bind fun c => (if ((b.length : Int) == 1) then ((kp b 0).bind fun i => some (i, c)) else some ((⟨d, 0, (⟨zS, zS⟩ : iX), b⟩ : Formula), c))))))))
def lC (a0 : jF) : List Formula → Int → (List Formula) → Option (Formula × jF)
 | [], c, b => (if (decide (c ≤ 0)) then (rT.bind fun n => some (n, a0)) else (if (decide (c > (b.length : Int))) then (wJ.bind fun o => some (o, a0)) else (if (c == (b.length : Int)) then ((mT a0 2 b).bind fun h => some (h.1, h.2)) else (if (c == 1) then ((mT a0 3 b).bind fun i => some (i.1, i.2)) else ((sr b).bind fun p => some ((⟨4, c, (⟨zS, zS⟩ : iX), p⟩ : Formula), a0))))))
 | g :: d, c, b => ((qK g 2).bind fun l => (if l then (lC a0 d (wi0 .i64 (c - 1)) b) else ((qK g 3).bind fun m => (if (!m) then ((kN 72 b ([g])).bind fun j => (lC a0 d c j)) else (lC a0 d c b)))))
def oW (a0 : jF) (b : Int) (a2 : List Formula) : Option (Formula × jF) :=
 lC a0 a2 b ([])
def mD (rec : jF → Formula → Option (Formula × jF)) (m : Formula) : List Formula → (List Formula) → jF → Option (Formula × jF)
 | [], b, c => (if (m.Op == 4) then ((oW c m.K b).bind fun g => some (g.1, g.2)) else ((mT c m.Op b).bind fun h => some (h.1, h.2)))
 | l :: i, b, c => ((rec c l).bind fun d => ((kN 72 b ([d.1])).bind fun j => (mD rec m i j d.2)))
def pQ (rec : jF → Formula → Option (Formula × jF)) (a0 : jF) (b : Formula) : Option (Formula × jF) :=
 (if (b.Op == 1) then some (b, a0) else mD rec b b.Kids ([]) a0)
def lZ : Nat → jF → Formula → Option (Formula × jF)
 | 0 => fun _ _ => none
 | n + 1 => pQ (lZ n)
def tC (a0 : Formula) : Option (Formula × Int) :=
 ((pn a0).bind fun g => (if (!g) then some ((⟨0, 0, (⟨zS, zS⟩ : iX), []⟩ : Formula), 11) else ((lZ jB (⟨0⟩ : jF) a0).bind fun b => ((if (b.2.e != 0) then some true else ((pn b.1).bind fun c => some (!c))).bind fun d => (if d then some ((⟨0, 0, (⟨zS, zS⟩ : iX), []⟩ : Formula), 12) else some (b.1, 0))))))
def vi (a0 c : Formula) : Option (Formula × Int) :=
 ((tC (⟨2, 0, (⟨zS, zS⟩ : iX), [a0, c]⟩ : Formula)).bind fun b => some (b.1, b.2))
def qN  : List Formula → Int → Int → Int → iX → (List Formula) → Option (Int × Int × Int × iX × (List Formula))
 | [], d, g, h, i, c => some (d, g, h, i, c)
 | l :: j, d, g, h, i, c => (if (d != 0) then some (d, g, h, i, c) else ((vi (⟨g, h, i, c⟩ : Formula) l).bind fun b => (qN j b.2 ((b.1).Op) ((b.1).K) ((b.1).iX) ((b.1).Kids))))
def tz (a0 : List Formula) : Option (Formula × Int) :=
 ((kp a0 0).bind fun x6 => ((tC x6).bind fun b => ((pH (decide (0 ≤ 1) && decide (1 ≤ (a0.length : Int)))).bind fun _ => ((qN (a0.drop (Int.toNat 1)) b.2 ((b.1).Op) ((b.1).K) ((b.1).iX) ((b.1).Kids)).bind fun (c, g, h, i, d) => (if (c != 0) then some ((⟨0, 0, (⟨zS, zS⟩ : iX), []⟩ : Formula), c) else some ((⟨g, h, i, d⟩ : Formula), 0))))))
def rC  : List nA → (List Formula) → Option (Formula × Int)
 | [], b => ((tz b).bind fun c => some (c.1, c.2))
 | h :: d, b => ((kN 72 b ([h.ji])).bind fun g => (rC d g))
def yi (a0 : jL) (d : iY) : Option (Formula × Int) :=
 ((wg a0 d).bind fun b => (if (!b.2) then some ((⟨0, 0, (⟨zS, zS⟩ : iX), []⟩ : Formula), 42) else ((uY a0 d).bind fun c => rC c ([(b.1).ji]))))
def nP (rec : Formula → (iX → Option Bool) → Option Bool) (f1 : iX → Option Bool) (a0 : Formula) : List Formula → Int → Option Bool
 | [], b => (if (a0.Op == 2) then some (b == (a0.Kids.length : Int)) else (if (a0.Op == 3) then some (decide (b > 0)) else some (decide (b ≥ a0.K))))
 | g :: c, b => ((rec g f1).bind fun d => (if d then (nP rec f1 a0 c (wi0 .i64 (b + 1))) else (nP rec f1 a0 c b)))
def sX (rec : Formula → (iX → Option Bool) → Option Bool) (a0 : Formula) (f1 : iX → Option Bool) : Option Bool :=
 (if (a0.Op == 1) then ((f1 a0.iX).bind fun b => some b) else nP rec f1 a0 a0.Kids 0)
def om : Nat → Formula → (iX → Option Bool) → Option Bool
 | 0 => fun _ _ => none
 | n + 1 => sX (om n)
def so (a0 : Formula) (f1 : iX → Option Bool) : Option Bool :=
 ((pn a0).bind fun d => ((if d then ((om jB a0 f1).bind fun b => some b) else some false).bind fun c => some c))
def oq (a0 : iX) (h : List (iX × (List (ByteArray × Bool)))) (b : List iY) (g : List (iX × (List iY))) (c : List (ByteArray × (List iY))) (d : List jg) (i : Int) (c1 : ByteArray) : Option Bool :=
 ((ri h b g c d i a0 c1).bind fun j => some j)
def pd (a0 : jL) (d : ((List (iX × (List (ByteArray × Bool)))) × (List iY) × (List (iX × (List iY))) × (List (ByteArray × (List iY))) × (List jg) × Int × ByteArray)) : List kP → (List iY) → Option (List iY)
 | [], b => ((wA b).bind fun j => some j)
 | g :: c, b => ((yi a0 g.Signed.iY).bind fun r417 => ((if (r417.2 == 0) then ((so r417.1 (fun (x : iX) => oq x d.1 d.2.1 d.2.2.1 d.2.2.2.1 d.2.2.2.2.1 d.2.2.2.2.2.1 d.2.2.2.2.2.2)).bind fun i => some i) else some false).bind fun l => (if l then ((kN 136 b ([g.Signed.iY])).bind fun h => (pd a0 d c h)) else (pd a0 d c b))))
def pq (a0 : jL) (b : List iY) (a2 : ByteArray) : Option (List iY) :=
 ((sL b a2).bind fun c => pd a0 c a0.jv ([]))
def nV (a0 l : jL) : Nat → (List iY) → (List iY) → Int → Option ((List iY) × (List iY) × Int)
 | 0, _, _, _ => none
 | i + 1, b, c, h => ((pq a0 c l.Name).bind fun d => ((pq l b a0.Name).bind fun g => ((if ((d.length : Int) == (b.length : Int)) then some ((g.length : Int) == (c.length : Int)) else some false).bind fun j => (if j then some (b, c, h) else (nV a0 l i d g (wi0 .i64 (h + 1)))))))
def rX (a0 b : jL) : Option ((List iY) × (List iY) × Int) :=
 nV a0 b jB ([]) ([]) 0
def pP (h : ByteArray) : List jg → (List iX) → Option (List iX)
 | [], b => some b
 | g :: c, b => (if (jP g.jM h) then ((kN 32 b ([g.iX])).bind fun d => (pP h c d)) else (pP h c b))
def ry (a0 : List jg) (b : ByteArray) : Option (List iX) :=
 pP b a0 ([])
def rj (rec : Formula → Option Int) : List Formula → Int → Option Int
 | [], b => some b
 | g :: d, b => ((rec g).bind fun c => (rj rec d (wi0 .i64 (b + c))))
def xA (rec : Formula → Option Int) (a0 : Formula) : Option Int :=
 rj rec a0.Kids 1
def tb : Nat → Formula → Option Int
 | 0 => fun _ => none
 | n + 1 => xA (tb n)
def rN (rec : Formula → Option Int) : List Formula → Int → Option Int
 | [], b => some (wi0 .i64 (b + 1))
 | g :: d, b => ((rec g).bind fun c => (rN rec d (if c > b then c else b)))
def xU (rec : Formula → Option Int) (a0 : Formula) : Option Int :=
 rN rec a0.Kids 0
def tV : Nat → Formula → Option Int
 | 0 => fun _ => none
 | n + 1 => xU (tV n)
def rS (rec : Formula → Option Bool) : List Formula → Option Bool
 | [] => some true
 | d :: b => ((rec d).bind fun c => (if (!c) then some false else (rS rec b)))
def xV (rec : Formula → Option Bool) (a0 : Formula) : Option Bool :=
 (if (a0.Op == 1) then ((ru a0.iX).bind fun o => ((if o then some ((a0.Kids.length : Int) == 0) else some false).bind fun h => ((if h then some (a0.K == 0) else some false).bind fun i => some i))) else ((if (decide (a0.Op < 1)) then some true else some (decide (a0.Op > 4))).bind fun j => ((if j then some true else some (!(jr a0.iX (⟨zS, zS⟩ : iX)))).bind fun l => ((if l then some true else some (decide ((a0.Kids.length : Int) > 8))).bind fun m => (if m then some false else ((if (decide (a0.Op < 4)) then some (a0.K != 0) else some false).bind fun n => ((if n then some true else ((if (a0.Op == 4) then ((if (decide ((a0.Kids.length : Int) < 1)) then some true else some (decide (a0.K < 0))).bind fun d => ((if d then some true else some (decide (a0.K > (a0.Kids.length : Int)))).bind fun g => some g)) else some false).bind fun c => some c)).bind fun b => (if b then some false else rS rec a0.Kids))))))))
def ue : Nat → Formula → Option Bool
 | 0 => fun _ => none
 | n + 1 => xV (ue n)
def pA (a0 : Formula) : Option Bool :=
 ((tb jB a0).bind fun h => ((if (decide (h ≤ 64)) then ((tV jB a0).bind fun c => some (decide (c ≤ 6))) else some false).bind fun d => ((if d then ((ue jB a0).bind fun b => some b) else some false).bind fun g => some g)))
def uh (a0 : Formula) (b : Int) : Option Bool :=
 ((if (a0.Op == b) then some ((a0.Kids.length : Int) == 0) else some false).bind fun x6 => some x6)
def qW (rec : Formula → Option ByteArray) : List Formula → ByteArray → Option ByteArray
 | [], b => some b
 | h :: g, b => ((rec h).bind fun c => ((oN b c).bind fun d => (qW rec g d)))
def xH (rec : Formula → Option ByteArray) (a0 : Formula) : Option ByteArray :=
 ((pT a0.Op).bind fun g => (if (a0.Op == 1) then ((rB a0.iX).bind fun l => ((oN g l).bind fun h => some h)) else (((if (a0.Op == 4) then ((pT a0.K).bind fun b => ((oN g b).bind fun c => some c)) else some g) : Option ByteArray).bind fun j => ((pT (a0.Kids.length : Int)).bind fun d => ((oN j d).bind fun i => qW rec a0.Kids i)))))
def qm : Nat → Formula → Option ByteArray
 | 0 => fun _ => none
 | n + 1 => xH (qm n)
def vZ (a0 j : Formula) : Option Int :=
 ((((pA a0).bind fun h => (if h then ((qm jB a0).bind fun i => some i) else some zS)) : Option ByteArray).bind fun b => ((((pA j).bind fun d => (if d then ((qm jB j).bind fun g => some g) else some zS)) : Option ByteArray).bind fun c => (if (oJ b c) then some (-1) else (if (!(oJ b c || jP b c)) then some 1 else some 0))))
def rF (h : Formula) (rec : Formula → Formula → Option Bool) : List Formula → Nat → Option Bool
 | [], _ => some true
 | d :: b, i182 => ((kp h.Kids (i182 : Int)).bind fun g => ((rec d g).bind fun c => (if (!c) then some false else (rF h rec b (i182 + 1)))))
def yb (rec : Formula → Formula → Option Bool) (a0 b : Formula) : Option Bool :=
 ((if (a0.Op != b.Op) then some true else some (a0.K != b.K)).bind fun c => ((if c then some true else some (!(jr a0.iX b.iX))).bind fun d => ((if d then some true else some ((a0.Kids.length : Int) != (b.Kids.length : Int))).bind fun g => (if g then some false else rF b rec a0.Kids 0))))
def sK : Nat → Formula → Formula → Option Bool
 | 0 => fun _ _ => none
 | n + 1 => yb (sK n)
def qx (c : List Formula) (d : Formula) : Nat → Int → Option Int
 | 0, _ => none
 | g + 1, b => ((if (decide (b > 0)) then ((kp c (wi0 .i64 (b - 1))).bind fun j => ((vZ j d).bind fun h => some (decide (h > 0)))) else some false).bind fun i => (if i then (qx c d g (wi0 .i64 (b - 1))) else some b))
def lM (p : Bool) : List Formula → (List Formula) → Option (List Formula)
 | [], b => some b
 | d :: g, b => ((qx b d jB (b.length : Int)).bind fun c => ((if p then some (decide (c > 0)) else some false).bind fun m => ((if m then ((kp b (wi0 .i64 (c - 1))).bind fun o => ((sK jB o d).bind fun l => some l)) else some false).bind fun n => (if n then (lM p g b) else ((pH (decide (0 ≤ c) && decide (c ≤ (b.length : Int)))).bind fun _ => ((kN 72 ([]) (b.take (Int.toNat c))).bind fun h => ((kN 72 h ([d])).bind fun i => ((pH (decide (0 ≤ c) && decide (c ≤ (b.length : Int)))).bind fun _ => ((kN 72 i (b.drop (Int.toNat c))).bind fun j => (lM p g j))))))))))
def ux (a0 : List Formula) (b : Bool) : Option (List Formula) :=
 lM b a0 ([])
def ph (g : Int) (a0 : lQ) : List Formula → Option ((Formula × lQ) ⊕ Unit)
 | [] => some (Sum.inr ())
 | d :: b => ((uh d (wi0 .i64 (5 - g))).bind fun c => (if c then some (Sum.inl ((⟨(wi0 .i64 (5 - g)), 0, (⟨zS, zS⟩ : iX), []⟩ : Formula), a0)) else (ph g a0 b)))
def mu (i : Int) (a0 : lQ) : List Formula → (List Formula) → Option (Formula × lQ)
 | [], b => ((ph i a0 b).bind fun s => match s with | .inl m => some m | .inr _ => ((ux b true).bind fun c => ((if a0.Oz then some true else some (decide ((c.length : Int) > 64))).bind fun h => (if ((c.length : Int) == 1) then ((kp c 0).bind fun o => some (o, (⟨h⟩ : lQ))) else some ((⟨i, 0, (⟨zS, zS⟩ : iX), c⟩ : Formula), (⟨h⟩ : lQ))))))
 | d :: g, b => (if (d.Op == i) then ((kN 72 b d.Kids).bind fun j => (mu i a0 g j)) else ((uh d (wi0 .i64 (5 - i))).bind fun n => (if n then some ((⟨(wi0 .i64 (5 - i)), 0, (⟨zS, zS⟩ : iX), []⟩ : Formula), a0) else ((kN 72 b ([d])).bind fun l => (mu i a0 g l)))))
def oR (a0 : lQ) (b : Int) (a2 : List Formula) : Option (Formula × lQ) :=
 mu b a0 a2 ([])
def ml  : List Formula → Int → (List Formula) → Option (Int × (List Formula))
 | [], c, b => some (c, b)
 | g :: d, c, b => ((uh g 2).bind fun i => (if i then (ml d (wi0 .i64 (c - 1)) b) else ((uh g 3).bind fun j => (if (!j) then ((kN 72 b ([g])).bind fun h => (ml d c h)) else (ml d c b)))))
def mO (rec : lQ → Formula → Option (Formula × lQ)) (q : Formula) : List Formula → (List Formula) → lQ → Option (Formula × lQ)
 | [], g, b => (if (decide (q.Op < 4)) then ((oR b q.Op g).bind fun i => some (i.1, i.2)) else ((ml g q.K ([])).bind fun (d, c) => (if (decide (d ≤ 0)) then some ((⟨2, 0, (⟨zS, zS⟩ : iX), []⟩ : Formula), b) else (if (decide (d > (c.length : Int))) then some ((⟨3, 0, (⟨zS, zS⟩ : iX), []⟩ : Formula), b) else (if (d == (c.length : Int)) then ((oR b 2 c).bind fun j => some (j.1, j.2)) else (if (d == 1) then ((oR b 3 c).bind fun l => some (l.1, l.2)) else ((ux c false).bind fun o => some ((⟨4, d, (⟨zS, zS⟩ : iX), o⟩ : Formula), b))))))))
 | p :: m, g, b => ((rec b p).bind fun h => ((kN 72 g ([h.1])).bind fun n => (mO rec q m n h.2)))
def sN (rec : lQ → Formula → Option (Formula × lQ)) (a0 : lQ) (b : Formula) : Option (Formula × lQ) :=
 (if (b.Op == 1) then some (b, a0) else mO rec b b.Kids ([]) a0)
def ny : Nat → lQ → Formula → Option (Formula × lQ)
 | 0 => fun _ _ => none
 | n + 1 => sN (ny n)
def vW (a0 : Formula) : Option (Formula × Int) :=
 ((pA a0).bind fun g => (if (!g) then some ((⟨0, 0, (⟨zS, zS⟩ : iX), []⟩ : Formula), 11) else ((ny jB (⟨false⟩ : lQ) a0).bind fun b => ((if b.2.Oz then some true else ((pA b.1).bind fun c => some (!c))).bind fun d => (if d then some ((⟨0, 0, (⟨zS, zS⟩ : iX), []⟩ : Formula), 12) else some (b.1, 0))))))
def rz (o : iY) : List nA → Int → Int → Int → iX → (List Formula) → Option (Int × Int × Int × iX × (List Formula))
 | [], d, g, h, i, c => some (d, g, h, i, c)
 | l :: j, d, g, h, i, c => ((if (d == 0) then ((tm l.mn o).bind fun m => some m) else some false).bind fun n => (if n then ((vW (⟨2, 0, (⟨zS, zS⟩ : iX), [(⟨g, h, i, c⟩ : Formula), l.ji]⟩ : Formula)).bind fun b => (rz o j b.2 ((b.1).Op) ((b.1).K) ((b.1).iX) ((b.1).Kids))) else (rz o j d g h i c)))
def ve (m : iY) (a0 : jL) : List kP → Option (Formula × Int)
 | [] => some ((⟨0, 0, (⟨zS, zS⟩ : iX), []⟩ : Formula), 42)
 | c :: g => (if (!(kh c.Signed.iY m)) then (ve m a0 g) else ((vW c.ji).bind fun b => ((rz m a0.ke b.2 ((b.1).Op) ((b.1).K) ((b.1).iX) ((b.1).Kids)).bind fun (d, i, j, l, h) => (if (d != 0) then some ((⟨0, 0, (⟨zS, zS⟩ : iX), []⟩ : Formula), d) else some ((⟨i, j, l, h⟩ : Formula), 0)))))
def Bj (a0 : jL) (b : iY) : Option (Formula × Int) :=
 ve b a0 a0.jv
def wV (d : iX) : List iX → Option Bool
 | [] => some false
 | c :: b => (if (jr c d) then some true else (wV d b))
def zZ (a0 : List iX) (b : iX) : Option Bool :=
 wV b a0
def qg (rec : Formula → (List iX) → Option Bool) (g : List iX) (a0 : Formula) : List Formula → Int → Option Bool
 | [], b => (if (a0.Op == 2) then some (b == (a0.Kids.length : Int)) else (if (a0.Op == 3) then some (decide (b > 0)) else some (decide (b ≥ a0.K))))
 | h :: c, b => ((rec h g).bind fun d => (if d then (qg rec g a0 c (wi0 .i64 (b + 1))) else (qg rec g a0 c b)))
def yc (rec : Formula → (List iX) → Option Bool) (a0 : Formula) (b : List iX) : Option Bool :=
 (if (a0.Op == 1) then ((zZ b a0.iX).bind fun c => some c) else qg rec b a0 a0.Kids 0)
def sw : Nat → Formula → (List iX) → Option Bool
 | 0 => fun _ _ => none
 | n + 1 => yc (sw n)
def qf (a0 : jL) (h : List iX) : List kP → (List iY) → Option (List iY)
 | [], b => ((xq b).bind fun l => some l)
 | g :: c, b => ((Bj a0 g.Signed.iY).bind fun d => ((if (d.2 == 0) then ((sw jB d.1 h).bind fun j => some j) else some false).bind fun m => (if m then ((kN 136 b ([g.Signed.iY])).bind fun i => (qf a0 h c i)) else (qf a0 h c b))))
def uc (a0 : jL) (c : List iY) (a2 : ByteArray) : Option (List iY) :=
 ((uq c).bind fun d => ((ry d a2).bind fun b => qf a0 b a0.jv ([])))
def tg (a0 m : jL) : Nat → (List iY) → (List iY) → Int → Option ((List iY) × (List iY) × Int)
 | 0, _, _, _ => none
 | n296 + 1, b, c, h => ((uc a0 c m.Name).bind fun d => ((uc m b a0.Name).bind fun g => ((uf d b).bind fun i => ((if i then ((uf g c).bind fun j => some j) else some false).bind fun l => (if l then some (b, c, h) else (tg a0 m n296 d g (wi0 .i64 (h + 1))))))))
def AM (a0 b : jL) : Option ((List iY) × (List iY) × Int) :=
 tg a0 b jB ([]) ([]) 0
def xM (a0 d : jL) : Option ((List iY) × (List (iX × (List (ByteArray × Bool)))) × (List iY) × (List (iX × (List iY))) × (List (ByteArray × (List iY))) × (List jg) × Int × ByteArray) :=
 ((rX a0 d).bind fun c => ((uv c.2.1).bind fun b => some (c.2.1, b.1, b.2.1, b.2.2.1, b.2.2.2.1, b.2.2.2.2.1, b.2.2.2.2.2, d.Name)))
def sT (a0 : iX) (h : List (iX × (List (ByteArray × Bool)))) (b : List iY) (g : List (iX × (List iY))) (c : List (ByteArray × (List iY))) (d : List jg) (j : Int) (i : ByteArray) (l : List kP) (m : List nA) : Option Bool :=
 ((ri h b g c d j a0 i).bind fun n => some n)
def rL (a0 c : jL) (a2 : Formula) : Option Bool :=
 ((xM a0 c).bind fun b => ((so a2 (fun (x : iX) => sT x b.2.1 b.2.2.1 b.2.2.2.1 b.2.2.2.2.1 b.2.2.2.2.2.1 b.2.2.2.2.2.2.1 b.2.2.2.2.2.2.2 c.jv c.ke)).bind fun d => some d))
def Br (a0 g : jL) : Option (List iX) :=
 ((AM a0 g).bind fun b => ((uq b.2.1).bind fun c => ((ry c g.Name).bind fun d => some d)))
def wZ (a0 h : jL) (a2 : Formula) : Option Bool :=
 ((pA a2).bind fun g => ((if g then ((Br a0 h).bind fun b => ((sw jB a2 b).bind fun c => some c)) else some false).bind fun d => some d))
def oG (a0 : List iY) (f1 : iY → Option Bool) : Option Bool :=
 ((nW a0 f1).bind fun b => some (decide (b ≥ 0)))
structure ju where
 Kind : Int
 End : Int
 At : Int
def jy (x : ju) : List Value := [.int .i64 x.Kind, .int .i64 x.End, .int .i64 x.At]
theorem mi (x : ju) : (jy x).length = 3 := rfl
theorem rM (x : ju) : ∀ u ∈ jy x, u.oneCell' = true := by
 intro u hu
 simp only [jy, aM, dm, fj] at hu
 rcases hu with rfl | rfl | rfl <;> rfl
def rA  : List kP → (List iY) → Option (List iY)
 | [], b => some b
 | g :: d, b => ((kN 136 b ([g.Signed.iY])).bind fun c => (rA d c))
def wD (a0 : jL) : Option (List iY) :=
 rA a0.jv ([])
def oh (d : List iY) (a0 : Int) (a3 : List iY) : List kP → Nat → (List ju) → Option (List ju)
 | [], _, b => some b
 | g :: c, i208, b => ((oH d g.Signed.iY).bind fun j => (if (!j) then ((kN 24 b ([(⟨2, a0, (i208 : Int)⟩ : ju)])).bind fun h => (oh d a0 a3 c (i208 + 1) h)) else ((oH a3 g.Signed.iY).bind fun l => (if (!l) then ((kN 24 b ([(⟨1, a0, (i208 : Int)⟩ : ju)])).bind fun i => (oh d a0 a3 c (i208 + 1) i)) else (oh d a0 a3 c (i208 + 1) b)))))
def wq (a0 : Int) (d a2 : jL) (a3 : List iY) : Option (List ju) :=
 ((wD a2).bind fun b => ((pq d b a2.Name).bind fun c => oh c a0 a3 d.jv 0 ([])))
def uu (a0 : iY) (b : List iY) : Option Bool :=
 ((oH b a0).bind fun c => some c)
def pU (i : List iY) (a0 : Int) : List nA → Nat → (List ju) → Option (List ju)
 | [], _, b => some b
 | h :: c, i124, b => ((oG h.mn (fun (x : iY) => uu x i)).bind fun g => (if (!g) then ((kN 24 b ([(⟨3, a0, (i124 : Int)⟩ : ju)])).bind fun d => (pU i a0 c (i124 + 1) d)) else (pU i a0 c (i124 + 1) b)))
def xt (a0 : Int) (b : jL) : Option (List ju) :=
 ((wD b).bind fun c => pU c a0 b.ke 0 ([]))
def wv (a0 : wc) : Option (List ju) :=
 ((tC a0.Formula).bind fun c => ((if (c.2 == 0) then (rT.bind fun d => ((mE jB c.1 d).bind fun g => some g)) else some false).bind fun h => (if h then some [(⟨4, 0, 0⟩ : ju)] else ((rL a0.ja a0.Client a0.Formula).bind fun b => (if (!b) then some [(⟨5, 0, 0⟩ : ju)] else some [])))))
def oY (c : Int) : Option (List ju) :=
 (if (decide (c < 0)) then none else (((if (decide ((wi0 .i64 (c - (wi0 .i64 (0 - 0)))) > 0)) then ((EK 24 (⟨0, 0, 0⟩ : ju) (wi0 .i64 (c - (wi0 .i64 (0 - 0))))).bind fun b => ((pH (decide (0 ≤ 0) && decide (0 ≤ (b.length : Int)))).bind fun _ => some (b.take (Int.toNat 0)))) else some ([])) : Option (List ju)).bind fun d => some d))
def mF  : List (List ju) → (List ju) → Option (List ju)
 | [], b => some b
 | g :: c, b => ((kN 24 b g).bind fun d => (mF c d))
def mB (a0 : List (List ju)) : List (List ju) → Int → Option (List ju)
 | [], b => ((oY b).bind fun h => ((mF a0 h).bind fun c => some c))
 | d :: g, b => (if (decide ((wi0 .i64 (b + (d.length : Int))) < 0)) then none else (mB a0 g (wi0 .i64 (b + (d.length : Int)))))
def pD (a0 : List (List ju)) : Option (List ju) :=
 mB a0 a0 0
def tp (a0 : wc) : Option (List ju) :=
 ((rX a0.ja a0.Client).bind fun b => ((wq 0 a0.ja a0.Client b.1).bind fun c => ((xt 0 a0.ja).bind fun d => ((wq 1 a0.Client a0.ja b.2.1).bind fun g => ((xt 1 a0.Client).bind fun h => ((wv a0).bind fun i => ((pD ([c, d, g, h, i])).bind fun j => some j)))))))
def qQ  : List ju → ByteArray → Option ByteArray
 | [], b => ((Ov b).bind fun l => some l)
 | c :: d, b => ((xf c.Kind).bind fun g => ((oN g (⟨#[32]⟩ : ByteArray)).bind fun m => ((xf c.End).bind fun h => ((oN m h).bind fun n => ((oN n (⟨#[32]⟩ : ByteArray)).bind fun o => ((xf c.At).bind fun i => ((oN o i).bind fun p => ((oN p (⟨#[10]⟩ : ByteArray)).bind fun q => ((DQ b q).bind fun j => (qQ d j))))))))))
def uT (a0 : List ju) : Option ByteArray :=
 qQ a0 zS
def pw (d : Int) : List ju → Int → Option Int
 | [], b => some b
 | g :: c, b => (if (g.Kind == d) then (pw d c (wi0 .i64 (b + 1))) else (pw d c b))
def sH (a0 : List ju) (b : Int) : Option Int :=
 pw b a0 0
def tf  : Option Bool :=
 ((tp (⟨(⟨(⟨#[111, 119, 110]⟩ : ByteArray), [], []⟩ : jL), (⟨(⟨#[99, 108, 105]⟩ : ByteArray), [], []⟩ : jL), (⟨2, 0, (⟨zS, zS⟩ : iX), []⟩ : Formula), 0, (⟨0, 0⟩ : Ap), 0, 0, 0, []⟩ : wc)).bind fun g => ((tp (⟨(⟨(⟨#[111, 119, 110]⟩ : ByteArray), [], []⟩ : jL), (⟨(⟨#[99, 108, 105]⟩ : ByteArray), [], []⟩ : jL), (⟨3, 0, (⟨zS, zS⟩ : iX), []⟩ : Formula), 0, (⟨0, 0⟩ : Ap), 0, 0, 0, []⟩ : wc)).bind fun d => ((if ((g.length : Int) == 1) then ((kp g 0).bind fun i => some (i.Kind == 4)) else some false).bind fun l => ((if l then ((uT g).bind fun c => some (jP c (⟨#[52, 32, 48, 32, 48, 10]⟩ : ByteArray))) else some false).bind fun m => ((if m then some ((d.length : Int) == 1) else some false).bind fun n => ((if n then ((kp d 0).bind fun h => some (h.Kind == 5)) else some false).bind fun o => ((if o then ((sH g 4).bind fun b => some (b == 1)) else some false).bind fun p => ((if p then ((sH g 5).bind fun j => some (j == 0)) else some false).bind fun q => some q))))))))
def su  : List kP → (List iY) → Option (List iY)
 | [], b => some b
 | g :: d, b => ((kN 136 b ([g.Signed.iY])).bind fun c => (su d c))
def xg (a0 : jL) : Option (List iY) :=
 su a0.jv ([])
def sv (j : jL) : List iY → Bool → Option Bool
 | [], b => some b
 | h :: c, b => ((if b then ((xg j).bind fun d => ((tm d h).bind fun g => some (!g))) else some false).bind fun i => (sv j c i))
def qL (j : jL) (a0 : Int) : List nA → Nat → (List ju) → Option (List ju)
 | [], _, b => some b
 | h :: d, c, b => ((sv j h.mn true).bind fun i => (if i then ((kN 24 b ([(⟨3, a0, (c : Int)⟩ : ju)])).bind fun g => (qL j a0 d (c + 1) g)) else (qL j a0 d (c + 1) b)))
def pO (d : List iY) (a0 : Int) (a3 : List iY) (i : jL) : List kP → Nat → (List ju) → Option (List ju)
 | [], _, b => ((qL i a0 i.ke 0 b).bind fun h => some h)
 | g :: c, i210, b => ((tm d g.Signed.iY).bind fun m => (if (!m) then ((kN 24 b ([(⟨2, a0, (i210 : Int)⟩ : ju)])).bind fun j => (pO d a0 a3 i c (i210 + 1) j)) else ((tm a3 g.Signed.iY).bind fun n => (if (!n) then ((kN 24 b ([(⟨1, a0, (i210 : Int)⟩ : ju)])).bind fun l => (pO d a0 a3 i c (i210 + 1) l)) else (pO d a0 a3 i c (i210 + 1) b)))))
def zY (a0 : Int) (b a2 : jL) (a3 : List iY) : Option (List ju) :=
 ((xg a2).bind fun c => ((uc b c a2.Name).bind fun d => pO d a0 a3 b b.jv 0 ([])))
def B5 (a0 : wc) : Option (List ju) :=
 ((AM a0.ja a0.Client).bind fun i => ((zY 0 a0.ja a0.Client i.1).bind fun m => ((zY 1 a0.Client a0.ja i.2.1).bind fun n => ((kN 24 m n).bind fun c => ((vW a0.Formula).bind fun b => ((if (b.2 == 0) then some (((b.1).Op) == 2) else some false).bind fun j => ((if j then some ((((b.1).Kids).length : Int) == 0) else some false).bind fun l => (if l then ((kN 24 c ([(⟨4, 0, 0⟩ : ju)])).bind fun d => some d) else ((wZ a0.ja a0.Client a0.Formula).bind fun h => (if (!h) then ((kN 24 c ([(⟨5, 0, 0⟩ : ju)])).bind fun g => some g) else some c))))))))))
def qh  : List ju → ByteArray → Option ByteArray
 | [], c => some c
 | b :: d, c => ((xf b.Kind).bind fun g => ((oN g (⟨#[32]⟩ : ByteArray)).bind fun j => ((xf b.End).bind fun h => ((oN j h).bind fun l => ((oN l (⟨#[32]⟩ : ByteArray)).bind fun m => ((xf b.At).bind fun i => ((oN m i).bind fun n => ((oN n (⟨#[10]⟩ : ByteArray)).bind fun o => ((oN c o).bind fun p => (qh d p))))))))))
def yC (a0 : List ju) : Option ByteArray :=
 qh a0 zS
def np (g : Int) (a0 : List ju) : List ju → Int → Option Bool
 | [], b => ((uT a0).bind fun h => ((yC a0).bind fun i => ((if (jP h i) then ((sH a0 g).bind fun d => some (d == b)) else some false).bind fun l => some l)))
 | j :: c, b => (if (j.Kind == g) then (np g a0 c (wi0 .i64 (b + 1))) else (np g a0 c b))
def sc (a0 : List ju) (b : Int) : Option Bool :=
 (tf.bind fun c => (if (!c) then some false else (if (decide ((a0.length : Int) > 100)) then some true else np b a0 a0 0)))
end
end Go.Proofs.YtjjjihkifgdhgaaGreatDoor
