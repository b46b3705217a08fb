/- a part of a proof of ChangeMoves -/
import Derived.Test.YtjjjihkifgdhgaaGreatDoorRtWm
import Derived.Lib.ItoaNum
import Derived.Lib.Join
import Derived.Recover
import Derived.LaidEqlPtr
import Derived.RangeFuncRecord
import Derived.Lib.AppendStr
import Derived.Lib.Builder
import Derived.Lib.UnsafeStr
import Derived.Shelf.SlSortCmp.NoneTotal
import Derived.Shelf.SortM.Plain
import Derived.Shelf.SortM.SortNone
import Derived.Shelf.SlIter.Sorted
import Derived.Shelf.SlIter.Nil
import Derived.Shelf.Strconv.Itoa3
import Derived.Shelf.Strings.OnBuilder
import Derived.Test.YtjjjihkifgdhgaaGreatDoorProg
import Derived.KernelRfl
set_option linter.all false
namespace Go.Proofs.YtjjjihkifgdhgaaGreatDoor
open Go.IntKind renaming wrap → wi0
open Go.RowKit
variable [M : Md]
theorem bS {α β : Type} {m : Option α} {f : α → Option β} {r : β} {G : Prop} (h : m.bind f = some r) (k : ∀ x, m = some x → f x = some r → G) : G :=
 let ⟨x, a, b⟩ := bind_some h
 k x a b
theorem sj {α : Type} {a b : α} (h : some a = some b) : a = b := fq h
theorem bC {α : Type} {b : Bool} {x y r : α} {G : Prop} (h : (if b = true then x else y) = r) (a : b = true → x = r → G) (d : b = false → y = r → G) : G := by
 rcases NL b with e | e
 ·exact a e (Sy e h)
 ·exact d e (SB e h)
theorem cB {a b : Bool} (h : a = b) : Value.bool a = Value.bool b := bA Value.bool h
theorem nb {a b : Nat} (h : Nat.ble a b = true := by exact rfl) : a ≤ b := Nat.le_of_ble_eq_true h
def Up : Nat → Nat → List Bool
 | 0, _ => []
 | n + 1, m => (m % 2 == 1) :: Up n (m / 2)
def bm (n m : Nat) : Array Bool := (Up n m).toArray
section
variable {P : Program} {n : Nat} {Q : qj} {E : Nat → Value} {W : World}
theorem CI {α : Type} {co : Operand} {b : Bool} {x y : Code} {A B r : α} (hm : (if b = true then A else B) = r) (a : jK E co = .bool b) (g : b = true → A = r → CW P n x Q E W) (d : b = false → B = r → CW P n y Q E W) : CW P n (.cond co x y) Q E W :=
 Np a (fun e => g e (Sy e hm)) (fun e => d e (SB e hm))
theorem CJ {d ρ : Type} {m : Option d} {k : d → Option ρ} {r : ρ} {x : Code} {K : (Nat → Value) → World → Prop} (hm : m.bind k = some r) (I : d → (Nat → Value) → World → Prop) (h1 : ∀ s, m = some s → CW P n x (qz (I s) Q) E W) (g : ∀ s E W, I s E W → k s = some r → K E W) : CW P n x (qz K Q) E W :=
 let ⟨s, a, b⟩ := bind_some hm
 OD (I s) (h1 s a) (fun E W h => g s E W h b)
theorem Un {g ρ d : Type} {m : Option (d ⊕ g)} {k : d ⊕ g → Option ρ} {r : ρ} {x : Code} {K : (Nat → Value) → World → Prop} (hm : m.bind k = some r) (I : g → (Nat → Value) → World → Prop) (h1 : ∀ s, m = some s → k s = some r → CW P n x (qz (fun E W => ∃ t, s = .inr t ∧ I t E W) Q) E W) (i : ∀ s E W, I s E W → k (.inr s) = some r → K E W) : CW P n x (qz K Q) E W :=
 let ⟨s, a, b⟩ := bind_some hm
 OD (fun E W => ∃ t, s = .inr t ∧ I t E W) (h1 s a b) (fun E W ⟨t, e, h⟩ => i t E W h (by subst e; exact b))
theorem LJ {d ρ : Type} {m : Option d} {k : d → Option ρ} {r : ρ} {ops : Array Oper} {rest : List Oper} (hm : m.bind k = some r) (I : d → (Nat → Value) → World → Prop) (j : Nat) (g : ∀ s E W, I s E W → k s = some r → LW P n ops Q (rest.drop j) E W) (h1 : ∀ s, m = some s → (∀ E W, I s E W → LW P n ops Q (rest.drop j) E W) → LW P n ops Q rest E W) : LW P n ops Q rest E W :=
 let ⟨s, a, b⟩ := bind_some hm
 h1 s a (fun E W h => g s E W h b)
theorem PJ {d ρ : Type} {m : Option d} {k : d → Option ρ} {r : ρ} {ops : Array Oper} {S : Array Bool → World → Prop} {fuel : Nat} {listed : Array Bool} (hm : m.bind k = some r) (I : d → (Nat → Value) → World → Prop) (i : Array Bool) (g : Nat) (j : ∀ s E W, I s E W → k s = some r → PX P n ops Q S g i E W) (h1 : ∀ s, m = some s → (∀ E W, I s E W → PX P n ops Q S g i E W) → PX P n ops Q S fuel listed E W) : PX P n ops Q S fuel listed E W :=
 let ⟨s, a, b⟩ := bind_some hm
 h1 s a (fun E W h => j s E W h b)
theorem cF (n : Nat) {f : FuncId} {fn : Func} {c : Code} {args : List Value} {w : World} {R : Ending → World → Prop} (a : P.funcs[f]? = some fn) (b : fn.body = some c) (h : @CW Bm P n c (xH P fn R) (BR args) w) (g : fn.ntmps = n := by exact rfl) (d : args.length ≤ n := by exact nb) : Calls P f args.toArray w R := xW a b g d h
end
section
variable {dd : Bool} {P : Program} {fn : Func} {E : Nat → Value} {W w : World} {μ : km} {L : List (Nat × Obj)}
theorem rP {t : Tmp} {v : Value} (a : ST dd kx w W μ L) (b : fn.results = #[.tmp t] := by exact rfl) (d : E t = v := by exact rfl) : xH P fn (fun e W' => e = .returned v ∧ Ex dd w W') .ret E W := lB b d ⟨rfl, a.ex⟩
end
theorem ST.Fk {dd : Bool} {F : Nat → Prop} {w W : World} {μ : km} {x : Nat × Obj} {L : List (Nat × Obj)} (h : ST dd F w W μ (x :: L)) : ST dd F w W μ ([x] ++ L) := h
theorem ST.Sz {dd : Bool} {F : Nat → Prop} {w W : World} {μ : km} {L : List (Nat × Obj)} (h : ST dd F w W μ L) : ST dd F w W μ ([] ++ L) := h
theorem aL {E : Nat → Value} {ax : Array Operand} {l : List Value} (h : ax.toList.map (jK E) = l) : ax.map (jK E) ++ (#[] : Array Value) = l.toArray := by subst h; apply Array.ext'; simp
section
variable {dd : Bool}
variable {P : Program} {E : Nat → Value} {W : World} {d : Option Nat} {ty : TypeId} {pos : String} {af : Array Edge} {g : Option (Nat × Bool)}
 {F : Nat → Prop} {w : World} {μ : km} {L : List (Nat × Obj)}
variable {f : FuncId} {fv : Operand} {ax : Array Operand} {ats : Array TypeId} {args : List Value} {v : Value} {K : Value → World → Prop}
theorem Eg (a : ST dd F w W μ L) (he : ∀ args w, (callFunc f args).run P w = .ok (.enter f args) w) (b : jV dd P f args W v) (h : ∀ W', ST dd F w W' μ L → K v W') (i : jK E fv = .func (.func f) #[] #[] := by exact rfl) (ha : ax.toList.map (jK E) = args := by exact rfl) : ng P E ⟨d, .call ⟨.value fv, ax, ats⟩, ty, pos, af, g⟩ W K := FQ a i he (aL ha) b h
theorem tU {α : Type} {e : TypeId} {enc : α → List Value} {k : Nat} {l : List α} {Y : List (Nat × Obj)} (a : ST dd F w W μ Y) (he : ∀ args w, (callFunc f args).run P w = .ok (.enter f args) w) (b : lV dd P f args W e enc k l) (h : ∀ W' v μ' R, ST dd F w W' μ' (R ++ Y) → kj μ μ' → Lo F w μ μ' → jZ e enc k v l R → K v W') (i : jK E fv = .func (.func f) #[] #[] := by exact rfl) (ha : ax.toList.map (jK E) = args := by exact rfl) : ng P E ⟨d, .call ⟨.value fv, ax, ats⟩, ty, pos, af, g⟩ W K := MQ _ a i he (aL ha) b h
theorem yH {K' : Value → List (Nat × Obj) → World → Prop} {L0 L2 : List (Nat × Obj)} (i : ST dd F w W μ L) (j : L.Perm (L0 ++ L2)) (he : ∀ args w, (callFunc f args).run P w = .ok (.enter f args) w) (k : Fl L0 W → (L0.map (·.1)).Nodup → kj μ (uK W L0) → (∀ b o, (b, o) ∈ L2 → uK W L0 b = some o) → kY dd P f args W L0 K') (h : ∀ W' v μ' L1, ST dd F w W' μ' (L1 ++ L2) → kj μ μ' → Lo F w μ μ' → (∀ b, W.heap.size ≤ b → ∀ o, uK W' L1 b = some o → μ' b = some o) → K' v L1 W' → K v W') (l : jK E fv = .func (.func f) #[] #[] := by exact rfl) (ha : ax.toList.map (jK E) = args := by exact rfl) : ng P E ⟨d, .call ⟨.value fv, ax, ats⟩, ty, pos, af, g⟩ W K :=
 Re L0 L2 i j l he (aL ha) (fun a b c d => by have := k a b c d; simpa using this) h
theorem U3 {K' : Value → List (Nat × Obj) → km → Prop} {L0 L2 : List (Nat × Obj)} (i : ST dd F w W μ L) (j : L.Perm (L0 ++ L2)) (he : ∀ args w, (callFunc f args).run P w = .ok (.enter f args) w) (k : Fl L0 W → (L0.map (·.1)).Nodup → kj μ (uK W L0) → (∀ b o, (b, o) ∈ L2 → uK W L0 b = some o) → lT dd P f args W μ L0 K') (h : ∀ W' v μ' L1, ST dd F w W' μ' (L1 ++ L2) → kj μ μ' → Lo F w μ μ' → K' v L1 μ' → K v W') (l : jK E fv = .func (.func f) #[] #[] := by exact rfl) (ha : ax.toList.map (jK E) = args := by exact rfl) : ng P E ⟨d, .call ⟨.value fv, ax, ats⟩, ty, pos, af, g⟩ W K :=
 Qd L0 L2 i j l he (aL ha) (fun a b c d => by have := k a b c d; simpa using this) h
end
section
variable {E : Nat → Value} {x1 x2 x3 x4 x5 x6 x7 x8 : Operand} {v1 v2 v3 v4 v5 v6 v7 v8 : Value}
theorem MO (h1 : jK E x1 = v1) : [x1].map (jK E) = [v1] := by rw [← h1]; rfl
theorem Ui (h1 : jK E x1 = v1) (a : jK E x2 = v2) : [x1, x2].map (jK E) = [v1, v2] := by rw [← h1, ← a]; rfl
end
theorem HL {P : Program} {E : Nat → Value} {W : World} {d : Option Nat} {ty : TypeId} {pos : String} {af : Array Edge} {g : Option (Nat × Bool)} {t e m k b o : Nat} {x a : Operand} {v : IntKind} {i : Int} (p : P.underlying t = some (.array m e)) (he : ∀ w, (sizeOf e).run P w = .ok k w) (u : jK E x = .pointer (some ⟨b, o, none⟩)) (l : jK E a = .int v i) (h : 0 ≤ i) (n : i < (m : Int)) : lQ P E ⟨d, .indexAddr t x a, ty, pos, af, g⟩ W (.pointer (some ⟨b, o + i.toNat * k, none⟩)) W := by
 show (do pure (.value (← Instr.indexAt t (jK E x) (jK E a))) : Sem Next).run P W = _
 rw [u, l]
 have j : 0 ≤ i ∧ i < (m : Int) := ⟨h, n⟩
 simp [Instr.indexAt, asIntOf, aY p, he W, j, Instr.sureAddr, dz]
end Go.Proofs.YtjjjihkifgdhgaaGreatDoor
namespace Go.Proofs.YtjjjihkifgdhgaaGreatDoor
open Go.IntKind renaming wrap → wi0
open Go.RowKit
def U7 (R : List (Nat × Obj)) (k : Nat) (p : Value) (i a : Nat) : Prop := ∃ g o, R = [(g, o)] ∧ p = .pointer (some ⟨g, i * k + a, none⟩)
theorem Bj.f {R : List (Nat × Obj)} {k : Nat} {p : Value} {i : Nat} (h : Bj R k p i) : U7 R k p i 0 := h
section
variable {P : Program} {E : Nat → Value} {W : World} {d : Option Nat} {ty : TypeId} {pos : String} {af : Array Edge} {g : Option (Nat × Bool)}
 {dd : Bool} {F : Nat → Prop} {w : World} {μ : km} {L : List (Nat × Obj)} {α : Type} {e' : TypeId} {enc : α → List Value} {k : Nat} {v : Value} {l : List α} {R : List (Nat × Obj)}
theorem jZ.put (h : jZ e' enc k v l R) (hk : ∀ x, (enc x).length = k) {p : Value} {i : Nat} (hp : Bj R k p i) {x0 : α} (z : l[i]? = some x0) (x1 : α) :
  ∃ g a, R = [(g, .cells a e' (0, 0))] ∧ p = .pointer (some ⟨g, i * k, none⟩) ∧ i * k + k ≤ a.size ∧ (∀ j y, (enc x0)[j]? = some y → a[i * k + j]? = some y) ∧
   jZ e' enc k v (l.set i x1) [(g, .cells (a.toList.take (i * k) ++ enc x1 ++ a.toList.drop (i * k + k)).toArray e' (0, 0))] := by
 have n : i < l.length := (bF.1 z).1
 obtain ⟨u, a, cap, rfl, rfl, w, G, m, I, rfl, J⟩ := Bl h hk hp z
 have hle : i * k + k ≤ cap * k := by
  have : (i + 1) * k ≤ cap * k := cN _ (by omega)
  rwa [cR, jj] at this
 have b : i * k + k ≤ l.length * k := by
  have : (i + 1) * k ≤ l.length * k := cN _ (by omega)
  rwa [cR, jj] at this
 have hlen : l.length * k ≤ cap * k := cN _ w
 refine ⟨u, a, rfl, rfl, by rw [m]; exact hle, J, .inr ⟨u, cap, _, by simp, rfl, by simpa using w, G, ?_, ?_⟩⟩
 ·show ((a.toList.take (i * k) ++ (enc x1) ++ a.toList.drop (i * k + k)).toArray).size = _
  have d : a.toList.length = cap * k := by simpa using m
  rw [dG, aF, aF, cZ, fH, hk, d, dK (by omega)]; omega
 ·rw [gN, GI hk l i x1 n, ← I]
  have A : (a.toList.take (l.length * k)).take (i * k) = a.toList.take (i * k) := by rw [gj]; congr 1; omega
  have E : (a.toList.take (l.length * k)).drop (i * k + k) = (a.toList.drop (i * k + k)).take (l.length * k - (i * k + k)) := by rw [ig]
  rw [A, E]
  show List.take (l.length * k) (a.toList.take (i * k) ++ enc x1 ++ a.toList.drop (i * k + k)) = _
  have d : a.toList.length = cap * k := by simpa using m
  have t : (a.toList.take (i * k) ++ enc x1).length = i * k + k := by rw [aF, cZ, hk, d, dK (by omega)]
  rw [eZ, dI (by rw [t]; exact b), t]
end
variable [M : Md]
theorem oc {v : Value} (h : v.cells.toList.all Value.oneCell' = true := by exact rfl) : ∀ u ∈ v.cells.toList, u.oneCell' = true := ed.1 h
theorem dc {p : Prop} [Decidable p] (h : p := by decide) : p := h
theorem kr {p : Prop} (h : p := by kernel_rfl) : p := h
theorem br {α : Sort _} {a b : α} (h : a = b := by rfl) : a = b := h
abbrev LO := List (Nat × Obj)
abbrev Ob (c : Array Value) (t : TypeId) : Obj := .cells c t (0, 0)
abbrev Ol (c : List Value) (t : TypeId) : Obj := .cells c.toArray t (0, 0)
theorem mr {P : Program} {t e : TypeId} {m k : Nat} {z : Value} {a : Array (Nat × Value)} {cs : Array Value} (j : P.underlying t = some (.slice e)) (i : ∀ w, (sizeOf e).run P w = .ok k w) (n : ∀ w, (zeroValue e).run P w = .ok z w) (hm : m * k ≤ 16777216 := by decide) (g : a.toList = (a.toList.map (·.2)).zipIdx.map (fun p => (p.2, p.1)) := by exact rfl) (l : (a.toList.map (·.2)).all (fun v => v.cells.size == k) = true := by exact rfl) (d : (a.toList.map (·.2)).length = m := by exact rfl) (b : ((a.toList.map (·.2)).flatMap (fun v => v.cells.toList)).toArray = cs := by exact rfl) (W : World) :
  (Instr.buildSlice t m a).run P W = .ok (.slice (some ⟨W.heap.size, 0, none⟩) m m) (W.alloc (.cells cs e (0, 0))) :=
 Bi _ j i n hm g (fun v h => eq_of_beq (ed.1 l v h)) d b W
section
variable {dd : Bool} {P : Program} {fn : Func} {E : Nat → Value} {W w : World} {μ : km} {L L0 : List (Nat × Obj)}
theorem rQ {α : Type} {f : α → Value} {a r : α} {t : Tmp} (hm : some a = some r) (b : ST dd kx w W μ L) (d : fn.results = #[.tmp t] := by exact rfl) (g : E t = f a := by exact rfl) : xH P fn (fun e W' => e = .returned (f r) ∧ Ex dd w W') .ret E W := by
 obtain rfl := sj hm; exact lB d g ⟨rfl, b.ex⟩
theorem cG (n : Nat) {f : FuncId} {c : Code} {args : List Value} {v : Value} (a : P.funcs[f]? = some fn) (b : fn.body = some c) (h : ST dd kx w w (hp w) [] → @CW Bm P n c (xH P fn (fun e i => e = .returned v ∧ Ex dd w i)) (BR args) w) (g : fn.ntmps = n := by exact rfl) (d : args.length ≤ n := by exact nb) : jV dd P f args w v := xW a b g d (h (ST.start w))
theorem vi {K : Value → List (Nat × Obj) → World → Prop} (n : Nat) {f : FuncId} {c : Code} {args : List Value} (a : P.funcs[f]? = some fn) (d : fn.body = some c) (h : ST dd kx w w (hp w) [] → @CW Bm P n c (xH P fn (fun e b => ∃ v L1, e = .returned v ∧ uj dd [] L1 w b ∧ K v L1 b)) (BR args) w) (i : fn.ntmps = n := by exact rfl) (g : args.length ≤ n := by exact nb) : kY dd P f args w [] K := xW a d i g (h (ST.start w))
theorem wB {K : Value → List (Nat × Obj) → World → Prop} (d : ni μ L0 w) (n : Nat) {f : FuncId} {c : Code} {args : List Value} (a : P.funcs[f]? = some fn) (g : fn.body = some c) (h : ST dd (keys L0) w w μ L0 → @CW Bm P n c (xH P fn (fun e b => ∃ v L1, e = .returned v ∧ uj dd L0 L1 w b ∧ K v L1 b)) (BR args) w) (j : fn.ntmps = n := by exact rfl) (i : args.length ≤ n := by exact nb) : kY dd P f args w L0 K := xW a g j i (h (ST.H9 d))
theorem uW {K : Value → List (Nat × Obj) → km → Prop} (d : ni μ L0 w) (n : Nat) {f : FuncId} {c : Code} {args : List Value} (a : P.funcs[f]? = some fn) (g : fn.body = some c) (h : ST dd (keys L0) w w μ L0 → @CW Bm P n c (xH P fn (fun e b => ∃ v L1 μ1, e = .returned v ∧ uj dd L0 L1 w b ∧ kj μ μ1 ∧ Lo (keys L0) w μ μ1 ∧ kj μ1 (uK b L1) ∧ K v L1 μ1)) (BR args) w) (j : fn.ntmps = n := by exact rfl) (i : args.length ≤ n := by exact nb) : lT dd P f args w μ L0 K := xW a g j i (h (ST.H9 d))
end
section
variable {dd : Bool}
variable {P : Program} {E : Nat → Value} {W : World} {d : Option Nat} {ty : TypeId} {pos : String} {af : Array Edge} {g : Option (Nat × Bool)}
 {F : Nat → Prop} {w : World} {μ : km} {L : List (Nat × Obj)}
variable {f : FuncId} {fv : Operand} {ax : Array Operand} {ats : Array TypeId} {args : List Value} {v : Value} {K : Value → World → Prop}
theorem eM {K' : Value → List (Nat × Obj) → World → Prop} {L0 L2 : List (Nat × Obj)} (i : ST dd F w W μ L) (j : L.Perm (L0 ++ L2)) (he : ∀ args w, (callFunc f args).run P w = .ok (.enter f args) w) (k : ni (uK W L0) L0 W → kj μ (uK W L0) → kY dd P f args W L0 K') (h : ∀ W' v μ' L1, ST dd F w W' μ' (L1 ++ L2) → kj μ μ' → Lo F w μ μ' → (∀ b, W.heap.size ≤ b → ∀ o, uK W' L1 b = some o → μ' b = some o) → K' v L1 W' → K v W') (l : jK E fv = .func (.func f) #[] #[] := by exact rfl) (ha : ax.toList.map (jK E) = args := by exact rfl) : ng P E ⟨d, .call ⟨.value fv, ax, ats⟩, ty, pos, af, g⟩ W K :=
 yH i j he (fun a b c _ => k ⟨a, b, kj.refl _⟩ c) h l ha
theorem eD {K' : Value → List (Nat × Obj) → km → Prop} {L0 L2 : List (Nat × Obj)} (i : ST dd F w W μ L) (j : L.Perm (L0 ++ L2)) (he : ∀ args w, (callFunc f args).run P w = .ok (.enter f args) w) (k : ni μ L0 W → lT dd P f args W μ L0 K') (h : ∀ W' v μ' L1, ST dd F w W' μ' (L1 ++ L2) → kj μ μ' → Lo F w μ μ' → K' v L1 μ' → K v W') (l : jK E fv = .func (.func f) #[] #[] := by exact rfl) (ha : ax.toList.map (jK E) = args := by exact rfl) : ng P E ⟨d, .call ⟨.value fv, ax, ats⟩, ty, pos, af, g⟩ W K :=
 U3 i j he (fun a b c _ => k ⟨a, b, c⟩) h l ha
end
def Oo (op : BinOp) : Value → Value → Option Value
 | .int k a, .int k' b => if k = k' then JI k op a b else none
 | _, _ => none
def SA (i : Nat) : Value → Option Value
 | .tuple vs => vs[i]?
 | _ => none
def JQ : Value → Bool
 | .pointer (some ⟨_, _, none⟩) => true
 | _ => false
def Ss (o : Nat) : Value → Value
 | .pointer (some ⟨b, k, none⟩) => .pointer (some ⟨b, k + o, none⟩)
 | v => v
theorem Je {v : Value} (h : JQ v = true) : ∃ b k, v = .pointer (some ⟨b, k, none⟩) := by
 unfold JQ at h; split at h
 ·exact ⟨_, _, rfl⟩
 ·cases h
section
variable {P : Program} {n : Nat} {Q : qj} {E : Nat → Value} {W : World} {ops : Array Oper} {rest : List Oper}
 {d j t : Nat} {want b : Bool} {v : Value} {ins : Go.Op} {ty : TypeId} {pos : String} {af : Array Edge} {A : Value → Prop} {x y : Operand}
theorem Wm (h : LW P n ops Q rest (nS E d (jK E x)) W) (a : d < n := by decide) : LW P n ops Q (⟨some d, .move x, ty, pos, af, none⟩ :: rest) E W := V (jH rfl) h a
theorem Wa (h : LW P n ops Q rest (nS E d (jK E x)) W) (a : d < n := by decide) : LW P n ops Q (⟨some d, .assign x, ty, pos, af, none⟩ :: rest) E W := V (mP rfl) h a
theorem Wh (b : jK E x = v) (h : LW P n ops Q rest (nS E d v) W) (a : d < n := by decide) : LW P n ops Q (⟨some d, .move x, ty, pos, af, none⟩ :: rest) E W := V (jH b) h a
theorem Wg (b : jK E x = v) (h : LW P n ops Q rest (nS E d v) W) (a : d < n := by decide) : LW P n ops Q (⟨some d, .assign x, ty, pos, af, none⟩ :: rest) E W := V (mP b) h a
theorem Wx {i : Nat} (a : SA i (jK E x) = some v) (h : LW P n ops Q rest (nS E d v) W) (b : d < n := by decide) : LW P n ops Q (⟨some d, .extract x i, ty, pos, af, none⟩ :: rest) E W := by
 unfold SA at a; split at a
 ·rename_i vs e; exact V (Fw e a) h b
 ·cases a
theorem Wi {op : BinOp} {tx tv : TypeId} (g : Oo op (jK E x) (jK E y) = some v) (h : LW P n ops Q rest (nS E d v) W) (l : d < n := by decide) : LW P n ops Q (⟨some d, .binOp op tx x y tv, ty, pos, af, none⟩ :: rest) E W := by
 unfold Oo at g; split at g
 ·rename_i k a k' b i j
  split at g
  ·rename_i e; subst e; exact V (kG i j g) h l
  ·cases g
 ·cases g
theorem Wf {t : TypeId} {f off : Nat} (a : li P t f off) (h : LW P n ops Q rest (nS E d (Ss off (jK E x))) W) (hp : JQ (jK E x) = true := by exact rfl) (g : d < n := by decide) : LW P n ops Q (⟨some d, .fieldAddr t x f, ty, pos, af, none⟩ :: rest) E W := by
 obtain ⟨b, k, e⟩ := Je hp
 refine V (jG a e) ?_ g
 rw [e] at h; exact h
theorem Wn (h : LW P n ops Q rest (nS E d (jK E x)) W) (hp : JQ (jK E x) = true := by exact rfl) (a : d < n := by decide) : LW P n ops Q (⟨some d, .nilCheck x, ty, pos, af, none⟩ :: rest) E W := by
 obtain ⟨b, k, e⟩ := Je hp
 refine V (mN e) ?_ a
 rw [e] at h; exact h
theorem un (h : b = !want) (k : LW P n ops Q rest (nS E d undef) W) (g : (ops[j]?).bind (·.dst) = some t := by exact rfl) (a : E t = .bool b := by exact rfl) (l : t < n := by decide) (i : d < n := by decide) :
  LW P n ops Q (⟨some d, ins, ty, pos, af, some (j, want)⟩ :: rest) E W := Vn g (by rw [a, h]) k l i
theorem ug (h : b = want) (l : lQ P E ⟨some d, ins, ty, pos, af, some (j, want)⟩ W v W) (k : LW P n ops Q rest (nS E d v) W) (g : (ops[j]?).bind (·.dst) = some t := by exact rfl) (a : E t = .bool b := by exact rfl) (m : t < n := by decide) (i : d < n := by decide) :
  LW P n ops Q (⟨some d, ins, ty, pos, af, some (j, want)⟩ :: rest) E W := Vg g (by rw [a, h]) l k m i
theorem pE (h : b = want) (k : ng P E ⟨some d, ins, ty, pos, af, some (j, want)⟩ W fun v W' => LW P n ops Q rest (nS E d v) W') (g : (ops[j]?).bind (·.dst) = some t := by exact rfl) (a : E t = .bool b := by exact rfl) (l : t < n := by decide) (i : d < n := by decide) :
  LW P n ops Q (⟨some d, ins, ty, pos, af, some (j, want)⟩ :: rest) E W := OO g (by rw [a, h]) k l i
theorem UZ (h : b = want) (l : ∃ p, A p ∧ ∀ W, lQ P E ⟨some d, ins, ty, pos, af, some (j, want)⟩ W p W) (k : ∀ p, A p → LW P n ops Q rest (nS E d p) W) (g : (ops[j]?).bind (·.dst) = some t := by exact rfl) (a : E t = .bool b := by exact rfl) (m : t < n := by decide) (i : d < n := by decide) :
  LW P n ops Q (⟨some d, ins, ty, pos, af, some (j, want)⟩ :: rest) E W := U8 g (by rw [a, h]) l k m i
section
variable {dd : Bool} {F : Nat → Prop} {w : World} {μ : km} {L : List (Nat × Obj)} {T : TypeId} {a off : Nat} {cs : Array Value} {fr : Nat × Nat}
theorem VA {t : TypeId} (b : ST dd F w W μ L) (i : (a, Obj.cells cs T fr) ∈ L) (ys : List Value) (g : ∀ w, (isAgg t).run P w = .ok true w) (j : ∀ w, (sizeOf t).run P w = .ok ys.length w) (h : LW P n ops Q rest (nS E d (.agg ys.toArray)) W) (l : jK E x = .pointer (some ⟨a, off, none⟩) := by exact rfl) (m : (cs.toList.drop off).take ys.length = ys := by exact rfl) (k : d < n := by decide) : LW P n ops Q (⟨some d, .load t x, ty, pos, af, none⟩ :: rest) E W := V (jA l (jD b.has i ys m g j)) h k
theorem VB {t : TypeId} (b : ST dd F w W μ L) (i : (a, Obj.cells cs T fr) ∈ L) (k : jK E x = .pointer (some ⟨a, off, none⟩)) (l : cs[off]? = some v) (g : ∀ w, (isAgg t).run P w = .ok false w) (h : LW P n ops Q rest (nS E d v) W) (j : d < n := by decide) : LW P n ops Q (⟨some d, .load t x, ty, pos, af, none⟩ :: rest) E W := V (jA k (jP b.has i l g)) h j
end
section
variable {K : (Nat → Value) → World → Prop} {Q' : qj} {c : Code} {id id2 : Nat} {l : List Oper} {z : Code}
theorem sg (h : LW P n l.toArray (qz (fun E W => CW P n c Q E W) Q) l E W) : CW P n (.seq (.region id l.toArray false) c) Q E W := jM (jL h)
theorem ln (h : K E W) : LW P n ops (qz K Q) [] E W := kk (jI h)
theorem lr (h : LW P n l.toArray (qz (fun E W => CW P n c Q E W) Q) l E W) : LW P n ops (qz (fun E W => CW P n (.seq (.region id l.toArray false) c) Q E W) Q') [] E W := kk (jI (jM (jL h)))
theorem lS (h : LW P n l.toArray (qz (fun E W => CW P n c (qz (fun E W => CW P n z Q E W) Q) E W) (qz (fun E W => CW P n z Q E W) Q)) l E W) : LW P n ops (qz (fun E W => CW P n (.seq (.seq (.region id l.toArray false) c) z) Q E W) Q') [] E W := kk (jI (jM (jM (jL h))))
theorem bg (h : LW P n l.toArray (qz (fun E W => CW P n c (wP id2 Q) E W) (wP id2 Q)) l E W) : CW P n (.block id2 (.seq (.region id l.toArray false) c)) Q E W := kZ (jM (jL h))
theorem kg (h : LW P n l.toArray (qz (fun E W => CW P n c Q E W) Q) l E W) : CW P n .skip (qz (fun E W => CW P n (.seq (.region id l.toArray false) c) Q E W) Q') E W := kX (jI (jM (jL h)))
theorem kS (h : LW P n l.toArray (qz (fun E W => CW P n c (qz (fun E W => CW P n z Q E W) Q) E W) (qz (fun E W => CW P n z Q E W) Q)) l E W) : CW P n .skip (qz (fun E W => CW P n (.seq (.seq (.region id l.toArray false) c) z) Q E W) Q') E W := kX (jI (jM (jM (jL h))))
theorem lt (h : Q .ret E W) : LW P n ops (qz (fun E W => CW P n .ret Q E W) Q') [] E W := kk (jI (kh h))
theorem kn (h : K E W) : CW P n .skip (qz K Q) E W := kX (jI h)
end
end
theorem pH.Qp {α : Type} {dd : Bool} {w W : World} {μ : km} {L R : List (Nat × Obj)} {e : TypeId} {enc : α → List Value} {k : Nat} {v : Value} {l : List α} (h : pH e enc k v l R) (d : ST dd kx w W μ L) (j : ∀ p, p ∈ R → p ∈ L) : Fr w.heap.size v := by
 rcases h with ⟨rfl, rfl, rfl⟩ | ⟨g, off, cap, a, rfl, rfl, h1, m, n, t⟩
 ·exact Fr.nil _
 ·intro b i
  simp [Value.ownBlock] at i
  subst i
  rcases (d.box g (.cells a e (0, 0)) (j _ (bP.2 rfl))).2.2 with h | h
  ·exact h
  ·exact h.elim
theorem KB.mono {α β : Type} {P : Program} {fv : Value} {μ μ0 : km} {a : α → List Value} {b : β → Value} {pm : α → Option β} (h : KB P fv μ a b pm) (i : kj μ μ0) : KB P fv μ0 a b pm := by
 obtain ⟨f, caps, h1, d, g⟩ := h
 exact ⟨f, caps, h1, d, fun W x r h => g W x r (i.trans h)⟩
theorem KB.form {α β : Type} {P : Program} {fv : Value} {μ : km} {d : α → List Value} {g : β → Value} {pm : α → Option β} (h : KB P fv μ d g pm) : ∃ f a b, fv = .func f a b := let ⟨f, b, h, _⟩ := h; ⟨_, _, b, h⟩
def IZ (l s : ByteArray) : Option ByteArray := if l.size + s.size ≤ 140737488355328 then some (l ++ s) else none
def Pn (l : ByteArray) : Option ByteArray := some l
def T8 (n : Int) : ByteArray := ⟨(Go.Lib.itoa n).toArray⟩
def AT (n : Int) : Option ByteArray := if -9223372036854775808 ≤ n ∧ n ≤ 9223372036854775807 then some (T8 n) else none
end Go.Proofs.YtjjjihkifgdhgaaGreatDoor
namespace Go.Proofs.YtjjjihkifgdhgaaGreatDoor
open Go.IntKind renaming wrap → wi0
open Go.RowKit
section
variable {P : Program} {E : Nat → Value} {W : World} {d : Option Nat} {x y : Operand} {tx tv ty : TypeId} {pos : String} {af : Array Edge} {g : Option (Nat × Bool)} {ms : List (String × TypeId)}
theorem GV {tx e : TypeId} {k : Nat} {p : Addr} (dd : Nat) (b : P.underlying tx = some (.pointer e)) (a : ∀ w, (sizeOf e).run P w = .ok (k + 1) w) (W : World) : (Op.equalIn (dd + 1) tx (.pointer (some p)) (.pointer (some p))).run P W = .ok true W := by
 simp [Op.equalIn, aY b, a W, run_sameAddr_same]
theorem Lu {e : TypeId} {k : Nat} {p : Addr} (h : P.underlying tx = some (.pointer e)) (b : ∀ w, (sizeOf e).run P w = .ok (k + 1) w) (i : jK E x = .pointer (some p)) (j : jK E y = .pointer (some p)) : lQ P E ⟨d, .binOp .neq tx x y tv, ty, pos, af, g⟩ W (.bool false) W := by
 show (do let r ← (do eqGuard .neq tx x y (jK E x) (jK E y); binOp .neq tx (jK E x) (jK E y)); pure (.value r) : Sem Next).run P W = _
 rw [i, j]
 have a := GV (p := p) 9999 h b W
 simp [eqGuard, binOp, Op.equal, Op.maxDepth, a]
end
theorem qo.form {κ γ : Type} {kenc : κ → Value} {Q : Value → γ → List (Nat × Obj) → Prop} {μ : km} {v : Value} {l : List (κ × γ)} (h : qo kenc Q μ v l) : ∃ m, v = .map m := by
 obtain ⟨a, R, h, _⟩ := h
 obtain ⟨m, rfl⟩ := h.form
 exact ⟨_, rfl⟩
theorem lT.mono {dd : Bool} {P : Program} {f : FuncId} {args : List Value} {w : World} {μ0 : km} {L0 : List (Nat × Obj)} {K K' : Value → List (Nat × Obj) → km → Prop} (h : lT dd P f args w μ0 L0 K) (hk : ∀ v L1 μ1, kj μ0 μ1 → K v L1 μ1 → K' v L1 μ1) : lT dd P f args w μ0 L0 K' :=
 cV h fun _ _ ⟨v, L1, μ1, h1, b, a, d, g, i⟩ => ⟨v, L1, μ1, h1, b, a, d, g, hk _ _ _ a i⟩
section
variable {dd : Bool} {F : Nat → Prop} {w W : World} {μ : km} {L : List (Nat × Obj)} {l : Nat}
theorem AU {w : World} {b : Nat} {o : Obj} (h : b ≠ l) : (w.putObj l o).heap[b]? = w.heap[b]? := World.putObj_heap_other h
theorem ST.frame (h : ST dd F w W μ L) (o : Obj) (k : l < w.heap.size) (j : ¬ F l) (hm : μ l = none) : ST dd F (w.putObj l o) (W.putObj l o) μ L := by
 refine ⟨h.os, h.tape, h.output, h.drawn, by simpa using h.size, fun b d m => ?_, fun b x d => ?_, fun b x d => ?_, h.nd⟩
 ·by_cases a : b = l
  ·subst a
   rw [World.putObj_heap_same (by have := h.size; omega), World.putObj_heap_same k]
  ·rw [AU a, AU a]
   exact h.lZ b (by simpa using d) m
 ·have a : b ≠ l := fun e => by rw [e, hm] at d; cases d
  rw [AU a]; exact h.mem b x d
 ·obtain ⟨h1, i, g⟩ := h.box b x d
  have a : b ≠ l := fun e => by
   subst e
   rcases g with g | g
   ·omega
   ·exact j g
  rw [AU a]
  exact ⟨h1, i, by simpa using g⟩
end
theorem EL (s : ByteArray) : Go.Lib.strCells s = ((mz s).map (kN .u8)).flatten := by
 unfold Go.Lib.strCells mz
 induction s.data.toList with
 | nil => rfl
 | cons b l ih => simp only [bL, bN, ih]; rfl
theorem GW (k : IntKind) (l : List Int) : ((l.map (kN k)).flatten).length = l.length := by
 rw [pd (k := 1) (fun _ => rfl), iE]
section
variable {P : Program} {dd : Bool} {F : Nat → Prop} {w W : World} {μ : km} {R : List (Nat × Obj)} {E : Nat → Value} {d : Option Nat} {ty : TypeId} {pos : String} {af : Array Edge} {g : Option (Nat × Bool)}
theorem LC {K : Value → World → Prop} {e t u : TypeId} {v : Value} {l r : List Int} {str : ByteArray} (X : List (Nat × Obj)) {Y : List (Nat × Obj)} {x y : Operand} {i : TypeInfo} (n : ST dd F w W μ (X ++ (R ++ Y))) (ht : P.underlying t = some (.slice e)) (hu : P.underlying u = some .string) (Z : P.info? e = some i) (hz : i.zero = some (.int .u8 0)) (L : i.size = 1) (Q : i.bytes = 1) (hx : jK E x = v) (hy : jK E y = .string str) (hR : jZ e (kN .u8) 1 v l R) (U : mE 1 l (mz str) = some r) (h : ∀ W' v' R', ST dd F w W' μ (X ++ (R' ++ Y)) → jZ e (kN .u8) 1 v' r R' → (v = .slice none 0 0 → str.size = 0 → v' = .slice none 0 0) → K v' W') : ng P E ⟨d, .call ⟨.builtin .append, #[x, y], #[t, u]⟩, ty, pos, af, g⟩ W K := by
 unfold mE at U
 split at U
 case isFalse => cases U
 rename_i O
 cases U
 rw [mX, iE] at O
 obtain ⟨a1, M⟩ := O
 have hM : maxLen = 9223372036854775807 := by unfold maxLen; rfl
 have A : ∀ (V : Value) (W' : World), (Builtin.append_ #[t, u] ty #[v, .string str]).run P W = .ok V W' → (execOp (jK E) ⟨d, .call ⟨.builtin .append, #[x, y], #[t, u]⟩, ty, pos, af, g⟩).run P W = .ok (.value V) W' := by
  intro V W' hV
  show (do let d ← resolve (jK E) ⟨.builtin .append, #[x, y], #[t, u]⟩ ty; invoke d.target d.args : Sem Next).run P W = _
  simp [resolve, invoke, builtin, hx, hy, hV]
 have p : ((l ++ mz str).map (kN .u8)).flatten = (l.map (kN .u8)).flatten ++ Go.Lib.strCells str := by rw [cE, cM, EL]
 have a : (l ++ mz str).length = l.length + str.size := by rw [aF, mX]
 have ad : (Value.int IntKind.u8 0).cells.size = 1 := rfl
 have fresh : ∀ (lZ : Nat) (L' : List (Nat × Obj)), ¬ (v = .slice none 0 0 ∧ str.size = 0) → ST dd F w W μ L' → L'.Perm (X ++ Y) → (Builtin.append_ #[t, u] ty #[v, .string str]).run P W = .ok (.slice (some ⟨W.heap.size, 0, none⟩) (l.length + str.size) (grownCap W (l.length + str.size) lZ e))
    (W.drew.alloc (.cells (((l.map (kN .u8)).flatten ++ Go.Lib.strCells str).toArray ++ Builtin.zeroCells (Value.int .u8 0).cells (grownCap W (l.length + str.size) lZ e - (l.length + str.size))) e)) →
   ng P E ⟨d, .call ⟨.builtin .append, #[x, y], #[t, u]⟩, ty, pos, af, g⟩ W K := by
  intro lZ L' hv J hp I
  have a8 := grownCap_ge W (l.length + str.size) lZ e
  have a7 : grownCap W (l.length + str.size) lZ e ≤ maxLen := ie W (l.length + str.size) lZ e M
  have hlen : ((l.map (kN .u8)).flatten ++ Go.Lib.strCells str).length = l.length + str.size := by rw [aF, GW, gp]
  generalize T : ((l.map (kN .u8)).flatten ++ Go.Lib.strCells str).toArray ++ Builtin.zeroCells (Value.int .u8 0).cells (grownCap W (l.length + str.size) lZ e - (l.length + str.size)) = cs at I
  refine .inl ⟨_, _, A _ _ I, h _ _ [(W.heap.size, .cells cs e)] ?_ (.inr ⟨W.heap.size, _, cs, by rw [a], rfl, by rw [a]; exact a8, a7, ?_, ?_⟩) fun q1 q2 => absurd ⟨q1, q2⟩ hv⟩
  ·exact ((J.perm hp).drew.alloc _).perm (List.perm_middle.symm)
  ·subst T
   simp only [Array.size_append, dG, size_zeroCells, ad, hlen]
   omega
  ·subst T
   rw [a, p, iE, ← hlen]
   simp only [Array.toList_append]
   exact ij
 rcases hR with ⟨rfl, rfl, rfl⟩ | ⟨G, cap, m, rfl, rfl, q1, q2, q3, q4⟩
 ·rcases dZ str.size with J | J
  ·have hf := Go.Lib.run_firstCells_string (P := P) W 1 str
   have a6 : mz str = [] := aV (by rw [mX]; exact J)
   refine .inl ⟨.slice none 0 0, W, A _ _ ?_, h W _ [] n (.inl ⟨rfl, by rw [a6]; rfl, rfl⟩) fun _ _ => rfl⟩
   simp [Builtin.append_, aY ht, aY hu, sizeOf, typeInfo, Z, L, Builtin.lenOf, J]
   rw [J] at hf
   simp [hf]
  ·have I := run_append_nil_string (P := P) W t u ty e i (.int .u8 0) ht hu Z hz str J (by simp at M; omega) (by rw [Q]; simp at a1; omega)
   refine fresh 0 _ (fun q => by omega) n (.refl _) ?_
   have e1 : (str.data.map fun b => Value.int .u8 b.toNat) = (Go.Lib.strCells str).toArray := by
    apply Array.ext'
    simp [Go.Lib.strCells]
   rw [e1] at I
   simpa using I
 ·have hg := (n.box G (.cells m e (0, 0)) (by simp)).1
  by_cases z : l.length + str.size ≤ cap
  ·have I := Go.Lib.run_append_room_string (P := P) W t u ty e i ht hu Z L G l.length cap m hg str z (by omega)
   refine .inl ⟨_, _, A _ _ I, h _ _ [(G, _)] (ST.put n ⟨rfl, rfl, rfl, aX _, by simp⟩ (fun k hk => setRow_other W G k _ hk) (setRow_heap W G m _ e _ hg)) (.inr ⟨G, cap, _, by rw [a], rfl, by rw [a]; exact z, q2, ?_, ?_⟩) fun q => by cases q⟩
   ·simp only [dG, aF, cZ, fH, dv, gp]
    omega
   ·have ab : m.toList.take l.length = (l.map (kN .u8)).flatten := by simpa using q4
    rw [a, p, iE, ab, show l.length + str.size = ((l.map (kN .u8)).flatten ++ Go.Lib.strCells str).length by rw [aF, GW, gp]]
    simp only [aM]
    rw [← aM]
    exact ij
  ·have holds : ∀ j u, ((l.map (kN .u8)).flatten)[j]? = some u → W.cell? ((⟨G, 0, none⟩ : Addr).add j) = some u := by
    intro j u hj
    rw [dz, fi W G (0 + j) m e (0, 0) hg, ew]
    rw [← q4] at hj
    have aa := (bF.1 hj).1
    rw [cZ] at aa
    rw [dB (by omega)] at hj
    simpa using hj
   have I := Go.Lib.run_append_grow_string (P := P) W t u ty e i (.int .u8 0) ht hu Z hz ⟨G, 0, none⟩ l.length cap ((l.map (kN .u8)).flatten) (by rw [GW, L, iE]) holds str (by omega) (by omega) (by rw [Q]; exact growslice_fits (by omega) (by omega))
   refine fresh cap (X ++ Y) (fun q => by cases q.1) (n.sublist (by simp)) (.refl _) ?_
   simpa using I
theorem OW {s t : TypeId} {x : Operand} {v a : Value} (b : jK E x = v) (h : (convert s t v).run P W = .ok a W) : lQ P E ⟨d, .convert s t x, ty, pos, af, g⟩ W a W := by
 show (do pure (.value (← convert s t (jK E x))) : Sem Next).run P W = _
 rw [b]
 simp only [bZ, h, bK, cW]
theorem GN {b : Nat} {cs : Array Value} {T : TypeId} {fr : Nat × Nat} {W : World} (h : W.heap[b]? = some (.cells cs T fr)) : W.shape? b = some (T, cs.size) := by simp [World.shape?, h]
def IB (T e : TypeId) (v : Value) (l : ByteArray) (R : List (Nat × Obj)) : Prop :=
 ∃ b a u S, v = .pointer (some ⟨b, 0, none⟩) ∧ (a = .pointer none ∨ a = .pointer (some ⟨b, 0, none⟩)) ∧ R = (b, .cells #[a, u] T (0, 0)) :: S ∧ jZ e (kN .u8) 1 u (mz l) S ∧ (l.size = 0 → u = .slice none 0 0)
theorem Ns (l s : ByteArray) : mz (l ++ s) = mz l ++ mz s := by
 simp [mz, ByteArray.data_append]
theorem Pe {l s r : ByteArray} (h : IZ l s = some r) : mE 1 (mz l) (mz s) = some (mz r) := by
 unfold IZ at h
 split at h
 case isFalse => cases h
 rename_i a
 cases h
 unfold mE
 rw [mX, mX, Ns, bB ⟨by omega, by unfold maxLen; omega⟩]
theorem PK {l s r : ByteArray} (h : IZ l s = some r) (a : r.size = 0) : l.size = 0 ∧ s.size = 0 := by
 unfold IZ at h
 split at h
 case isFalse => cases h
 cases h
 rw [ByteArray.size_append] at a
 omega
theorem Cy (w : World) (g n k : Nat) (hk : k ≠ g) : (w.freeze ⟨g, 0, none⟩ n).heap[k]? = w.heap[k]? := by
 unfold World.freeze
 split
 ·rfl
 ·simp [dM, Ne.symm hk]
theorem OK {L : List (Nat × Obj)} {g n : Nat} {o : Obj} (d : ST dd F w W μ ((g, o) :: L)) : ST dd F w (W.freeze ⟨g, 0, none⟩ n) μ L := by
 have h1 := d.sublist (List.sublist_cons_self _ _)
 have m := d.box g o (.head _)
 have j : ∀ b q, (b, q) ∈ L → b ≠ g := fun b q a e => by
  subst e
  have := d.nd
  simp only [bL, dE] at this
  exact this.1 (bJ.2 ⟨_, a, rfl⟩)
 have k : (W.freeze ⟨g, 0, none⟩ n).heap.size = W.heap.size := by unfold World.freeze; split <;> simp
 have i : (W.freeze ⟨g, 0, none⟩ n).os = W.os ∧ (W.freeze ⟨g, 0, none⟩ n).tape = W.tape ∧ (W.freeze ⟨g, 0, none⟩ n).output = W.output ∧ (W.freeze ⟨g, 0, none⟩ n).drawn = W.drawn := by unfold World.freeze; split <;> exact ⟨rfl, rfl, rfl, rfl⟩
 refine ⟨i.1.trans h1.os, i.2.1.trans h1.tape, i.2.2.1.trans h1.output, by rw [i.2.2.2]; exact h1.drawn, by rw [k]; exact h1.size, fun b a l => ?_, fun b q a => ?_, fun b q a => ?_, h1.nd⟩
 ·rw [Cy _ _ _ _ (fun e => by subst e; rcases m.2.2 with h | h; omega; exact l h)]; exact h1.lZ b a l
 ·rw [Cy _ _ _ _ (fun e => by subst e; rw [m.2.1] at a; cases a)]; exact h1.mem b q a
 ·rw [Cy _ _ _ _ (j b q a)]; exact h1.box b q a
theorem PW {x : Operand} {u : Value} {ats : Array TypeId} {q : Option Addr} (i : jK E x = u) (h : ∃ a n c, u = .slice a n c ∧ (a = none ∨ c ≠ 0) ∧ q = a) : lQ P E ⟨d, .call ⟨.builtin .unsafeSliceData, #[x], ats⟩, ty, pos, af, g⟩ W (.pointer q) W := by
 obtain ⟨a, n, c, rfl, h1, rfl⟩ := h
 show (do let d ← resolve (jK E) ⟨.builtin .unsafeSliceData, #[x], ats⟩ ty; invoke d.target d.args : Sem Next).run P W = _
 have b : (Builtin.unsafeSliceData_ ats ty #[.slice q n c]).run P W = .ok (.pointer q) W := by
  rcases q with _ | a
  ·exact Go.Lib.run_unsafeSliceData_nil (P := P) W _ _ _ _
  ·exact Go.Lib.run_unsafeSliceData_row (P := P) W _ _ _ _ _ (h1.resolve_left (by simp))
 simp [resolve, invoke, builtin, i, b]
theorem Hn {K : Value → World → Prop} {L : List (Nat × Obj)} {t e : TypeId} (a : ST dd F w W μ L) (i : ∀ w, (zeroValue t).run P w = .ok (.agg #[.pointer none, .slice none 0 0]) w) (h : ∀ W' v R, ST dd F w W' μ (R ++ L) → IB t e v ⟨#[]⟩ R → K v W') : ng P E ⟨d, .alloc t, ty, pos, af, g⟩ W K :=
 ku a i fun W' b a => h W' _ [(b, _)] a ⟨b, _, _, [], rfl, .inl rfl, rfl, .inl ⟨rfl, rfl, rfl⟩, fun _ => rfl⟩
theorem Ng {l : ByteArray} (h : mz l = []) : l = ⟨#[]⟩ := by
 have : l.data.toList = [] := by simpa [mz] using h
 exact fQ (by simpa using this)
theorem Lt {K : Value → World → Prop} {L S : List (Nat × Obj)} {x y : Operand} {k it e : TypeId} {q : Option Addr} {l : ByteArray} {n c : Nat} (b : ST dd F w W μ (S ++ L)) (hp : P.underlying k = some (.pointer e)) (R : P.cellsOf e = 1) (U : jK E x = .pointer q) (Y : jK E y = .int .i64 (n : Nat)) (O : jZ e (kN .u8) 1 (.slice q n c) (mz l) S) (h : ∀ W', ST dd F w W' μ L → K (.string l) W') : ng P E ⟨d, .call ⟨.builtin .unsafeString, #[x, y], #[k, it]⟩, ty, pos, af, g⟩ W K := by
 have i : ∀ (V : Value) (W' : World), (Builtin.unsafeString_ #[k, it] ty #[.pointer q, .int .i64 (n : Nat)]).run P W = .ok V W' → (execOp (jK E) ⟨d, .call ⟨.builtin .unsafeString, #[x, y], #[k, it]⟩, ty, pos, af, g⟩).run P W = .ok (.value V) W' := by
  intro V W' Q
  show (do let d ← resolve (jK E) ⟨.builtin .unsafeString, #[x, y], #[k, it]⟩ ty; invoke d.target d.args : Sem Next).run P W = _
  simp [resolve, invoke, builtin, U, Y, Q]
 have none : mz l = [] → n = 0 → ∀ A : ST dd F w W μ L, ng P E ⟨d, .call ⟨.builtin .unsafeString, #[x, y], #[k, it]⟩, ty, pos, af, g⟩ W K := by
  intro h1 t A
  subst t
  rw [Ng h1] at h
  exact .inl ⟨_, _, i _ _ (Go.Lib.run_unsafeString_none (P := P) W k it ty q), h W A⟩
 rcases O with ⟨h1, t, rfl⟩ | ⟨m, cap, a, h1, rfl, q1, Z, q3, q4⟩
 ·cases h1
  exact none t rfl b
 ·cases h1
  by_cases p : mz l = []
  ·exact none p (by rw [p]; rfl) (b.sublist (by simp))
  ·have v : l.data.toList ≠ [] := by simpa [mz] using p
   have u : (mz l).length = l.data.toList.length := by simp [mz]
   have G := (b.box m (.cells a e (0, 0)) (by simp)).1
   have J := Go.Lib.run_unsafeString_row (P := P) W k it ty e hp R m a.size (GN G) l.data.toList v (by omega) (by unfold maxLen at Z; omega) (fun j x I => by
    rw [dz, fi W m (0 + j) a e (0, 0) G, ew]
    have T := (bF.1 I).1
    have z : (a.toList.take ((mz l).length * 1))[j]? = some (.int .u8 x.toNat) := by
     rw [q4, ← EL]
     simp only [Go.Lib.strCells, eB, I]
     rfl
    rw [dB (by omega)] at z
    simpa using z)
   rw [← u] at J
   refine .inl ⟨_, _, i _ _ J, ?_⟩
   have M : (⟨l.data.toList.toArray⟩ : ByteArray) = l := fQ (by simp)
   rw [M]
   exact h _ (OK b)
end
def Cm (P : Program) (μ : km) : Prop := ∃ g T fr, P.globalNamed "internal/strconv.uint64pow10" = some g ∧ μ g = some (.cells (Go.Lib.pow10Tab.map fun z => Value.int .u64 z).toArray T fr)
theorem Cm.mono {P : Program} {μ μ' : km} (h : Cm P μ) (b : kj μ μ') : Cm P μ' := by
 obtain ⟨g, T, fr, h1, a⟩ := h
 exact ⟨g, T, fr, h1, b _ _ a⟩
end Go.Proofs.YtjjjihkifgdhgaaGreatDoor
namespace Go.Proofs.YtjjjihkifgdhgaaGreatDoor
open Go.IntKind renaming wrap → wi0
open Go.Sort Go.Proofs Go.Shelf
theorem G7 {g b : Nat} {o : Obj} : keys [(g, o)] b ↔ b = g := by
 constructor
 ·rintro ⟨a, h⟩
  simp at h
  exact h.1
 ·rintro rfl; exact ⟨o, by simp⟩
theorem Cu (w : World) (g m : Nat) (f : Array Value → Array Value) (os : Array Obj) (b : Nat) (d : b < w.heap.size) :
  (Go.Sort.grow (mapBlock (Go.Sort.ahead w m) g f) os).heap[b]? = if g = b then w.heap[b]?.map (onCells f) else w.heap[b]? := by
 have a : b < (mapBlock (Go.Sort.ahead w m) g f).heap.size := by simp only [mapBlock, Go.Sort.ahead, Array.size_modify]; exact d
 rw [heap_grow_old _ _ a]
 simp only [mapBlock, Go.Sort.ahead, dM]
theorem Lm {w : World} {g m : Nat} {f : Array Value → Array Value} {os : Array Obj} {cs : Array Value} {T : TypeId} {fr : Nat × Nat} (d : w.heap[g]? = some (.cells cs T fr)) :
  uj true [(g, .cells cs T fr)] [(g, .cells (f cs) T fr)] w (Go.Sort.grow (mapBlock (Go.Sort.ahead w m) g f) os) := by
 have a : g < w.heap.size := (dF.1 d).1
 refine ⟨⟨rfl, rfl, rfl, ?_, ?_, fun b i j => ?_⟩, fun b o h => ?_, by simp⟩
 ·refine tH.of ?_
  show w.drawn ≤ w.drawn + m
  omega
 ·show w.heap.size ≤ (w.heap.modify g (onCells f) ++ os).size
  simp
 ·rw [Cu _ _ _ _ _ _ i, bE fun h => j (G7.2 h.symm)]
 ·simp only [aR, dl, fa, Prod.mk.injEq] at h
  obtain ⟨rfl, rfl⟩ := h
  refine ⟨?_, .inr (G7.2 rfl)⟩
  rw [Cu _ _ _ _ _ _ a, bB rfl, d]
  rfl
theorem MZ {w W : World} (h : Ex true w W) : ∃ q os, W = Go.Sort.grow (w.drewN q) os := by
 refine ⟨W.drawn - w.drawn, W.heap.extract w.heap.size W.heap.size, ?_⟩
 have g : W.heap = w.heap ++ W.heap.extract w.heap.size W.heap.size := by
  apply Array.ext_getElem?
  intro i
  rw [Array.getElem?_append]
  split
  ·rename_i j; exact h.lZ i j
  ·rename_i j
   rw [Array.getElem?_extract]
   have l := h.size
   split
   ·rw [show w.heap.size + (i - w.heap.size) = i by omega]
   ·exact Array.getElem?_eq_none (by omega)
 obtain ⟨h1, m, n, p, t⟩ := W
 have a := h.os; have b := h.tape; have d := h.output; have k := h.drawn rfl
 simp only at a b d k g
 unfold Go.Sort.grow World.drewN
 simp only [World.mk.injEq]
 exact ⟨g, b, by omega, a, d⟩
theorem L7 {α : Type} [Inhabited α] {enc : α → List Value} {k : Nat} (hk : ∀ x, (enc x).length = k) (l : List α) (j : Nat) (a : j < l.length * k) :
  (l.map enc).flatten[j]? = some ((flatK enc k l.toArray)[j]!) := by
 have g : 0 < k := by
  cases k with
  | zero => simp at a
  | succ n => omega
 have h1 : j / k < l.length := (gE g).2 a
 rw [get_flatK _ _ _ _ (by simpa using a)]
 have h : l.toArray[j / k]! = l[j / k] := by
  rw [getElem!_pos l.toArray (j / k) (by simpa using h1)]; simp
 rw [h]
 have b : j % k < (enc l[j / k]).length := by rw [hk]; exact Nat.mod_lt _ g
 have d := wX hk l (j / k) l[j / k] (cX h1) (j % k) ((enc l[j / k])[j % k]) (cX b)
 rw [Nat.div_add_mod' j k] at d
 rw [d, getElem!_pos (enc l[j / k]) (j % k) b]
theorem Jw {α : Type} [Inhabited α] {enc : α → List Value} {k : Nat} (hk : ∀ x, (enc x).length = k) {w : World} {g : Nat} {cs : Array Value} {T : TypeId} (b : w.heap[g]? = some (.cells cs T (0, 0))) (l : List α)
  (h : cs.toList.take (l.length * k) = (l.map enc).flatten) : HoldsK enc k w g 0 l.toArray := by
 intro j d
 have a : j < l.length * k := by simpa using d
 have h1 := L7 hk l j a
 rw [← h, fj, bB a] at h1
 refine ⟨?_, ?_⟩
 ·simp only [World.cell?, b, ew]
  simpa using h1
 ·simp [World.frozen?, b]
theorem Lz {α : Type} [Inhabited α] {enc : α → List Value} {k : Nat} (hk : ∀ x, (enc x).length = k) {cs : Array Value} (l : List α) (b : l.length * k ≤ cs.size) :
  (putCells id 0 (flatK enc k l.toArray) cs).toList.take (l.length * k) = (l.map enc).flatten := by
 apply eA
 intro j
 rw [fj]
 split
 ·rename_i a
  rw [L7 hk l j a]
  simp only [putCells, dN, Array.getElem?_mapIdx, size_flatK, dG]
  rw [Array.getElem?_eq_getElem (by omega)]
  simp [a]
 ·rename_i a
  rw [fz (by rw [pd hk]; omega)]
theorem JH (enc : Value → Value) (o : Nat) (d c : Array Value) : (putCells enc o d c).size = c.size := by simp [putCells]
section
variable {α : Type} {P : Program} {ρ : Ren}
theorem SN {l : List α} {cf : α × α → Option Int} (h : E4 cf l) : SWO (ltOf fun (x y : {x // x ∈ l}) => (cf (x.1, y.1)).getD 0) ∧
  (∀ x y : {x // x ∈ l}, ltOf (fun (x y : {x // x ∈ l}) => (cf (x.1, y.1)).getD 0) x y = uv cf x.1 y.1) := by
 have e : ∀ x y : {x // x ∈ l}, ltOf (fun (x y : {x // x ∈ l}) => (cf (x.1, y.1)).getD 0) x y = uv cf x.1 y.1 := fun x y => by
  obtain ⟨c, g⟩ := h.is x.1 x.2 y.1 y.2
  simp [ltOf, uv, g]
 refine ⟨⟨fun x => ?_, fun x y z => ?_, fun x y z => ?_⟩, e⟩
 ·rw [e]; exact h.irrefl _ x.2
 ·rw [e, e, e]; exact h.trans _ x.2 _ y.2 _ z.2
 ·rw [e, e, e]
  intro h1 b
  cases a : uv cf x.1 z.1 with
  | false => rfl
  | true =>
   cases d : uv cf y.1 x.1 with
   | true =>
    have := h.trans _ y.2 _ x.2 _ z.2 d a
    rw [b] at this; cases this
   | false =>
    have := h.total _ x.2 _ y.2 h1 d
    rw [this, b] at a; cases a
theorem LI (L : SlLaysF0.n6 P ρ) (k : Nat) (aE : ∀ w, (isAgg (ρ.t 24)).run P w = .ok true w) (zE : ∀ w, (Go.sizeOf (ρ.t 24)).run P w = .ok k w) {e : TypeId} (enc : α → List Value) (hk : ∀ x, (enc x).length = k) (h1 : ∀ x, ∀ u ∈ enc x, u.oneCell' = true) {v fv : Value} {l r : List α} {R : List (Nat × Obj)} {cf : α × α → Option Int} {w : World} {μ0 : km} (hH : Fl (R ++ []) w) (E : kj μ0 (uK w (R ++ []))) (Z : jZ e enc k v l R) (hc : KB P fv μ0 (fun (x : α × α) => [(.agg (enc x.1).toArray), (.agg (enc x.2).toArray)]) (fun (r : Int) => (.int .i64 r)) cf) (hm : Af cf l = some r) :
  kY true P (ρ.f 6) [v, fv] w (R ++ []) (fun u L1 _ => ∃ (S : List (Nat × Obj)), u = (.tuple #[]) ∧ L1 = (S ++ []) ∧ jZ e enc k v r S) := by
 obtain ⟨ok, rfl⟩ := Ib hm
 rw [bI] at hH E ⊢
 rcases dZ l.length with h0 | i
 ·have hl : l = [] := aV h0
  subst hl
  have hs : tD cf ([] : List α) = [] := by simp [tD]
  rw [hs]
  obtain ⟨p, c, rfl⟩ : ∃ p c, v = .slice p 0 c := by
   rcases Z with ⟨rfl, _, _⟩ | ⟨g, cap, j, rfl, _⟩
   ·exact ⟨_, _, rfl⟩
   ·exact ⟨_, _, rfl⟩
  refine cV (AnyF.slices_SortFunc_none L p c fv w) fun x w' ⟨hx, hw⟩ => ?_
  subst hx hw
  refine ⟨_, R, rfl, ⟨⟨rfl, rfl, rfl, tH.of (aX _), aX _, fun _ _ _ => rfl⟩, fun b o h => ⟨hH b o h, .inr ⟨o, h⟩⟩, ?_⟩, R, rfl, (bI R).symm, Z⟩
  rcases Z with ⟨_, _, rfl⟩ | ⟨g, cap, j, _, rfl, _⟩ <;> simp
 ·rcases Z with ⟨_, rfl, _⟩ | ⟨g, cap, j, rfl, rfl, a8, a7, O, ae⟩
  ·simp at i
  have hg : w.heap[g]? = some (.cells j e (0, 0)) := hH g _ (by simp)
  have aa : g < w.heap.size := (dF.1 hg).1
  haveI : Inhabited {x // x ∈ l} := ⟨⟨l[0], List.getElem_mem i⟩⟩
  obtain ⟨gg, caps, rfl, Q, z⟩ := hc
  obtain ⟨hO, T⟩ := SN ok
  have G : l.attach.toArray.size = l.length := by simp
  have ab : l.attach.map (fun x => enc x.1) = l.map enc := by
   rw [show (fun x : {x // x ∈ l} => enc x.1) = enc ∘ Subtype.val from rfl, ← eE, List.attach_map_subtype_val]
  have a1 : HoldsK (fun x : {x // x ∈ l} => enc x.1) k w g 0 l.attach.toArray := Jw (fun x => hk x.1) hg l.attach (by rw [ab, List.length_attach, ae])
  have M : CmpLays P gg caps (fun x : {x // x ∈ l} => enc x.1) k (fun x y => (cf (x.1, y.1)).getD 0) g 0 l.attach.toArray.size w := by
   intro m os dk ag x y
   obtain ⟨c, J⟩ := ok.is x.1 x.2 y.1 y.2
   have Y : kj μ0 (hp (sortWorldK (fun x : {x // x ∈ l} => enc x.1) k w g 0 m dk os)) := fun b o hb => by
    have A := E b o hb
    unfold uK at A
    split at A
    ·cases A
    ·rename_i hn
     have a6 : b < w.heap.size := (dF.1 A).1
     show (Go.Sort.grow (mapBlock (Go.Sort.ahead w m) g _) os).heap[b]? = _
     rw [Cu _ _ _ _ _ _ a6, bE fun h => hn (G7.2 h.symm)]
     exact A
   have h3 := z (sortWorldK (fun x : {x // x ∈ l} => enc x.1) k w g 0 m dk os) (x.1, y.1) c Y J
   have ea : ([Value.agg (enc x.1).toArray, Value.agg (enc y.1).toArray] ++ caps.toList).toArray = #[Value.agg (enc x.1).toArray, Value.agg (enc y.1).toArray] ++ caps := by
    apply Array.ext'; simp
   rw [← ea]
   exact cV h3 fun u W' hu => ⟨by rw [hu.1]; show _ = Ending.returned (.int .i64 ((cf (x.1, y.1)).getD 0)); rw [J]; rfl, MZ hu.2⟩
  have hT : ∀ x y : {x // x ∈ l}, ltOf (fun (x y : {x // x ∈ l}) => (cf (x.1, y.1)).getD 0) x y = false → ltOf (fun (x y : {x // x ∈ l}) => (cf (x.1, y.1)).getD 0) y x = false → x = y := fun x y a b => by
   rw [T] at a b
   exact Subtype.ext (ok.total _ x.2 _ y.2 a b)
  have d := AnyQ.slices_SortFunc_total L k aE zE (fun x : {x // x ∈ l} => enc x.1) (fun x => hk x.1) (fun x => h1 x.1) (fun x y => (cf (x.1, y.1)).getD 0) hO gg caps g 0 cap l.attach.toArray w Q M a1 aa (by rw [G]; exact ok.short) hT
  rw [G] at d
  refine cV d fun u w' ⟨hu, n, os, hw⟩ => ?_
  subst hu
  generalize hs : l.attach.toArray.toList.mergeSort (fun x y => !ltOf (fun (x y : {x // x ∈ l}) => (cf (x.1, y.1)).getD 0) y x) = s at hw
  have ad : s.map Subtype.val = tD cf l := by
   rw [← hs, iq (s := fun x y => !uv cf y x) (fun a _ b _ => by rw [T])]
   simp [tD]
  have W : s.length = l.length := by rw [← hs, List.length_mergeSort]; simp
  have U : (tD cf l).length = l.length := by simp [tD, List.length_mergeSort]
  have I := Lm (w := w) (m := n) (f := putCells id 0 (flatK (fun x : {x // x ∈ l} => enc x.1) k s.toArray)) (os := os) hg
  have af : w' = Go.Sort.grow (mapBlock (Go.Sort.ahead w n) g (putCells id 0 (flatK (fun x : {x // x ∈ l} => enc x.1) k s.toArray))) os := hw
  rw [← af] at I
  refine ⟨_, _, rfl, I, _, rfl, (bI _).symm, .inr ⟨g, cap, _, by rw [U], rfl, by omega, a7, by rw [JH, O], ?_⟩⟩
  rw [U, ← W, Lz (fun x => hk x.1) s (by rw [W, O]; exact cN k a8), ← ad, eE]
  rfl
end
theorem Ff (b : ByteArray) : b.toList = b.data.toList := by rw [eX]
theorem RN (l : List ByteArray) : (l.map tb).flatten = l.map Value.string := by
 induction l with
 | nil => rfl
 | cons x l ih => simp only [bL, bN, ih]; rfl
theorem O7 (l : List ByteArray) : (vo l).map (fun b => b.data.toList) = (l.map (fun b => b.data.toList)).mergeSort (fun x y => decide (x ≤ y)) := by
 unfold vo
 refine iq fun a _ b _ => ?_
 unfold pY
 rw [bytesLess_eq, Ff, Ff]
 by_cases h : a.data.toList ≤ b.data.toList
 ·have d : ¬ b.data.toList < a.data.toList := List.not_lt.2 h
  simp [h, d]
 ·have d : b.data.toList < a.data.toList := by
   cases Decidable.em (b.data.toList < a.data.toList) with
   | inl g => exact g
   | inr g => exact absurd (List.not_lt.1 g) h
  simp [h, d]
end Go.Proofs.YtjjjihkifgdhgaaGreatDoor
namespace Go.Proofs.YtjjjihkifgdhgaaGreatDoor
open Go.IntKind renaming wrap → wi0
open Go.WideElems Go.WideShapes Go.Sort Go.Proofs Go.Shelf
theorem Ls {β : Type} {vf : β → Value} {P : Program} {kt : TypeId} (G : P.underlying kt = some .string) {l : List (ByteArray × β)} {es : Array MapEntry} {clock : Nat} (h : uX Value.string vf l es clock) (A : (l.map (·.1)).Nodup) (E : ∀ p ∈ l, p.1.size ≤ maxLen) (z : l.length ≤ maxLen) {W : World} {b : Nat} (y : W.heap[b]? = some (.map es clock)) : ∃ D : DataW Unit, W.ownsMap P kt (fun _ => some (.lit (.bool true), [])) b es.size D ∧ (strKeys D).Perm (l.map (fun p => p.1.data.toList)) ∧ Maps.size D = l.length := by
 have d := h.keys
 have n : ∀ x ∈ es.toList, ∃ s : ByteArray, x.key = .string s ∧ s.size ≤ maxLen := fun x j => by
  have h1 : x.key ∈ es.toList.map (·.key) := bJ.2 ⟨x, j, rfl⟩
  rw [d] at h1
  obtain ⟨s, i, k⟩ := bJ.1 h1
  obtain ⟨p, u, w⟩ := bJ.1 i
  exact ⟨s, k.symm, by rw [← w]; exact E p u⟩
 have g : ∀ x ∈ es.toList, ∃ s : ByteArray, x.key = .string s ∧ Go.WideElems.rd (H := Unit) P kt (fun _ => some (.lit (.bool true), [])) x = some (.string s.data.toList, .lit (.bool true)) := fun x j => by
  obtain ⟨s, h1, i⟩ := n x j
  refine ⟨s, h1, ?_⟩
  simp [Go.WideElems.rd, keyOf, G, mapKey, h1, i]
 refine ⟨_, ⟨es, clock, y, ⟨by rw [h.length]; exact z, ⟨h.lt, ?_, ?_⟩, fun x j => ?_⟩, aX _, rfl⟩, ?_, ?_⟩
 ·have := h.born
  rw [List.Nodup, fB]
  exact this.imp (fun {a b} h => by omega)
 ·rw [d]
  rw [List.Nodup, fB]
  exact A.imp (fun {a b} m e => m (by injection e))
 ·obtain ⟨s, _, i⟩ := g x j
  exact ⟨_, i⟩
 ·have h1 := (sorted_perm (es.toList.map (Go.WideElems.rg (H := Unit) P kt (fun _ => some (.lit (.bool true), []))))).map (fun p => strOf p.1)
  refine List.Perm.trans h1 ?_
  have e : (es.toList.map (Go.WideElems.rg (H := Unit) P kt (fun _ => some (.lit (.bool true), [])))).map (fun p => strOf p.1) = l.map (fun p => p.1.data.toList) := by
   have t : (es.toList.map (Go.WideElems.rg (H := Unit) P kt (fun _ => some (.lit (.bool true), [])))).map (fun p => strOf p.1) = (es.toList.map (·.key)).map (fun v => match v with | .string s => s.data.toList | _ => []) := by
    rw [eE, eE]
    refine List.map_congr_left fun x j => ?_
    obtain ⟨s, i, k⟩ := g x j
    simp [Go.WideElems.rg, k, i, strOf]
   rw [t, d, eE, eE]
   rfl
  rw [e]
 ·have h1 := (sorted_perm (es.toList.map (Go.WideElems.rg (H := Unit) P kt (fun _ => some (.lit (.bool true), []))))).length_eq
  show (List.foldr DataW.insert [] _).length = _
  rw [h1, dm, ← h.length]
  simp
theorem JB {l : List ByteArray} {g : List (List UInt8)} (h : g.Perm (l.map fun b => b.data.toList)) : g.mergeSort (fun x y => decide (x ≤ y)) = (vo l).map (fun b => b.data.toList) := by
 rw [O7]
 have le : ∀ a b c : List UInt8, decide (a ≤ b) = true → decide (b ≤ c) = true → decide (a ≤ c) = true := fun a b c h1 d => by
  simp only [bO] at *
  exact List.le_trans h1 d
 have tot : ∀ a b : List UInt8, (decide (a ≤ b) || decide (b ≤ a)) = true := fun a b => by
  simp only [ft, bO]
  exact List.le_total a b
 refine List.Perm.eq_of_pairwise (le := fun a b => decide (a ≤ b) = true) (fun a b _ _ h1 d => List.le_antisymm (by simpa using h1) (by simpa using d)) (gh le tot _) (gh le tot _) ?_
 exact (gS _ _).trans (h.trans (gS _ _).symm)
section
variable {P : Program} {ρk ρt ρm : Ren}
theorem Lj (LK : SlLaysZ.n7 P ρk) (LT : SlLaysZ.n6 P ρt) (LM : SlLaysM.n6 P ρm) (h9 : ρt.f 9 = ρm.f 6) (hK : P.underlying (ρk.t 26) = some .string) (eg : ∀ args w, (callFunc (ρk.f 10) args).run P w = .ok (.enter (ρk.f 10) args) w) (es : ∀ args w, (callFunc (ρt.f 9) args).run P w = .ok (.enter (ρt.f 9) args) w) {β : Type} {vf : β → Value} {l : List (ByteArray × β)} {b : Nat} {mv : Value} {t : TypeId} {W : World} {r : List ByteArray} (E : W.heap[b]? = some (.cells #[mv] t (0, 0))) (hm : wH Value.string vf (hp W) mv l) (hk : Hr l = some r) :
  lV false P (ρt.f 6) [.func (.func (ρk.f 10)) #[] #[.pointer (some ⟨b, 0, none⟩)]] W (ρt.t 26) tb 1 r := by
 unfold Hr at hk
 split at hk
 case isFalse => cases hk
 rename_i hc
 obtain ⟨Z, a1, a6⟩ := hc
 cases hk
 have j : b < W.heap.size := (dF.1 E).1
 have d : W.cell? ⟨b, 0, none⟩ = some mv := by simp [World.cell?, E]
 have z : AnyZ.SortsIn P ρt Fence.wide 4 :=
  ⟨fun R off cap i W hH hblk A => iZ.2 (by rw [h9]; exact AnyM.slices_Sort_string LM R off cap i W hH hblk A), fun p cap W => iZ.2 (by rw [h9]; exact AnyM.slices_Sort_string_none LM p cap W)⟩
 have O : SeqGives Fence.wide 2 P (ρk.f 10) #[.pointer (some ⟨b, 0, none⟩)] encStr (fun i => i.Perm ((l.map (·.1)).map fun b => b.data.toList)) l.length W := by
  rcases hm with ⟨rfl, rfl⟩ | ⟨m, es, clock, rfl, aa, I⟩
  ·have := AnyZ.keys_gives_nil (ρ := ρk) { LK with } Fence.wide 2 trivial rfl b W j d
   intro l' J W' U T Y Q
   refine CallsIn.mono (this l' J W' U T Y Q) ?_
   rintro e w' ⟨hv, i, rfl, hj⟩
   exact ⟨hv, [], bT _, hj⟩
  ·obtain ⟨D, L, u, A⟩ := Ls hK I Z a1 (by unfold maxLen; omega) aa
   have := AnyZ.keys_gives (ρ := ρk) { LK with } Fence.wide 2 trivial rfl (by omega) b m es.size D W j d L
   intro l' J W' U T Y Q
   refine CallsIn.mono (this l' J W' U T (by rw [A]; exact Y) Q) ?_
   rintro e w' ⟨hv, i, hp, hj⟩
   refine ⟨hv, i, ?_, hj⟩
   rw [eE]
   exact hp.trans u
 have cS := AnyZ.sorted_in LT Fence.wide 5 trivial trivial trivial trivial rfl (by omega) z es (ρk.f 10) #[.pointer (some ⟨b, 0, none⟩)] trivial eg _ l.length (by unfold maxLen; omega) a6 W O
 refine cV (iZ.1 cS) ?_
 rintro e w' ⟨v, i, rfl, hS, M, ad, a⟩
 have hs := JB hS
 have hlen : i.length = (vo (l.map (·.1))).length := by
  have := bA List.length hs
  simpa using this
 have n : (i.mergeSort (fun x y => decide (x ≤ y))).map encStr = ((vo (l.map (·.1))).map tb).flatten := by
  rw [hs, RN, eE]
  refine List.map_congr_left (fun x _ => ?_)
  simp only [Function.comp, encStr]
 rcases M.2 with ⟨rfl, Q⟩ | ⟨g, cap, G, rfl, k, hg, ae, a7, a8, ab⟩
 ·have : vo (l.map (·.1)) = [] := aV (by omega)
  rw [this]
  exact ⟨_, [], rfl, uj.JL ⟨a.os, a.tape, a.output, fun h => (by cases h), a.size, fun b E => a.block b E⟩ (fun _ _ h => by cases h) (by simp), jZ.nil _ _ _⟩
 ·refine ⟨_, [(g, .cells G (ρt.t 26) (0, 0))], rfl, uj.JL ⟨a.os, a.tape, a.output, fun h => (by cases h), a.size, fun b E => a.block b E⟩ (fun b o h => by simp at h; obtain ⟨rfl, rfl⟩ := h; exact ⟨hg, k⟩) (by simp), .inr ⟨g, cap, G, by rw [hlen], rfl, by omega, a7, a8, ?_⟩⟩
  rw [← hlen, ab, n]
end
end Go.Proofs.YtjjjihkifgdhgaaGreatDoor
namespace Go.Proofs.YtjjjihkifgdhgaaGreatDoor
open Go.IntKind renaming wrap → wi0
open Go.RowKit
theorem NJ {P : Program} {ρ : Go.Shelf.Ren} (L : Go.Proofs.LaysM.n171 P ρ) {f : FuncId} (l : ρ.f 171 = f) {n : Int} {r : ByteArray} {w : World} (m : Cm P (hp w)) (hm : AT n = some r) : jV true P f [.int .i64 n] w (.string r) := by
 unfold AT at hm
 split at hm
 case isFalse => cases hm
 rename_i h
 cases hm
 subst l
 obtain ⟨g, T, fr, h1, d⟩ := m
 have a : Go.Lib.TabIs P w "internal/strconv.uint64pow10" .u64 Go.Lib.pow10Tab := by
  unfold Go.Lib.TabIs World.var?
  have i : w.heap[g]? = _ := d
  rw [h1]
  simp [i]
 refine cV (Go.Proofs.Any.strconv_Itoa L n h.1 h.2 w a) fun e W p => ?_
 obtain ⟨rfl, k, os, rfl⟩ := p
 refine ⟨rfl, rfl, rfl, rfl, tH.of ?_, ?_, fun b j => ?_⟩
 ·simp [Go.Sort.grow, World.drewN]
 ·simp [Go.Sort.grow, World.drewN]
 ·simp only [Go.Sort.grow, World.drewN]
  rw [Array.getElem?_append_left j]
end Go.Proofs.YtjjjihkifgdhgaaGreatDoor
namespace Go.Proofs.YtjjjihkifgdhgaaGreatDoor
open Go.IntKind renaming wrap → wi0
def fb := @Tryz.underlying9
def fu := @Tryz.zeroValue9
def fI := @Tryz.underlying0
def fY := @Tryz.zeroValue0
def gq := @Tryz.sizeOf9
def gH := @Tryz.underlying4
def gK := @Tryz.isAgg9
def gO := @Tryz.zeroValue4
def gV := @Tryz.sizeOf0
def ir := @Tryz.underlying271
def iu := @Tryz.underlying332
def iv := @Tryz.underlying272
def iw := @Tryz.underlying152
def iF := @Tryz.isAgg0
def iG := @Tryz.zeroValue271
def iH := @Tryz.zeroValue332
def iI := @Tryz.zeroValue272
def iJ := @Tryz.zeroValue152
def iU := @Tryz.underlying3
def iV := @Tryz.underlying5
def ja := @Tryz.sizeOf4
def jh := @Tryz.zeroValue3
def ji := @Tryz.zeroValue5
def jl := @Tryz.isAgg4
def OM : Go.Shelf.Ren := ⟨fun | 6 => 198 | 15 => 260 | 14 => 259 | 28 => 319 | 29 => 307 | 20 => 311 | 21 => 312 | 22 => 313 | 23 => 314 | 24 => 315 | 25 => 316 | 26 => 317 | 27 => 318 | 46 => 356 | 47 => 357 | 48 => 358 | 49 => 359 | 50 => 360 | 57 => 377 | n => n, fun | 22 => 45 | 24 => 52 | 25 => 138 | 3 => 3 | 39 => 271 | 0 => 0 | 53 => 332 | 55 => 272 | 4 => 4 | 46 => 336 | 45 => 335 | 50 => 340 | 5 => 5 | 9 => 9 | 66 => 371 | 70 => 375 | 76 => 392 | 77 => 248 | n => n, fun | n => n⟩
theorem Tq : Go.Proofs.SlLaysF0.n6 Tryz.prog OM := {
 mixed := by kernel_rfl,
 f6 := ⟨Tryz.f198.name, by decide, Tryz.func198.trans (bA some (by kernel_rfl))⟩,
 f14 := ⟨Tryz.f259.name, by decide, Tryz.func259.trans (bA some (by kernel_rfl))⟩,
 f15 := Tryz.func260.trans (bA some (by kernel_rfl)),
 f20 := ⟨Tryz.f311.name, by decide, Tryz.func311.trans (bA some (by kernel_rfl))⟩,
 f21 := ⟨Tryz.f312.name, by decide, Tryz.func312.trans (bA some (by kernel_rfl))⟩,
 f22 := ⟨Tryz.f313.name, by decide, Tryz.func313.trans (bA some (by kernel_rfl))⟩,
 f23 := ⟨Tryz.f314.name, by decide, Tryz.func314.trans (bA some (by kernel_rfl))⟩,
 f24 := ⟨Tryz.f315.name, by decide, Tryz.func315.trans (bA some (by kernel_rfl))⟩,
 f25 := ⟨Tryz.f316.name, by decide, Tryz.func316.trans (bA some (by kernel_rfl))⟩,
 f26 := ⟨Tryz.f317.name, by decide, Tryz.func317.trans (bA some (by kernel_rfl))⟩,
 f27 := ⟨Tryz.f318.name, by decide, Tryz.func318.trans (bA some (by kernel_rfl))⟩,
 f28 := Tryz.func319.trans (bA some (by kernel_rfl)),
 f29 := Tryz.func307.trans (bA some (by kernel_rfl)),
 f46 := ⟨Tryz.f356.name, by decide, Tryz.func356.trans (bA some (by kernel_rfl))⟩,
 f47 := Tryz.func357.trans (bA some (by kernel_rfl)),
 f48 := Tryz.func358.trans (bA some (by kernel_rfl)),
 f49 := ⟨Tryz.f359.name, by decide, Tryz.func359.trans (bA some (by kernel_rfl))⟩,
 f50 := ⟨Tryz.f360.name, by decide, Tryz.func360.trans (bA some (by kernel_rfl))⟩,
 f57 := ⟨Tryz.f377.name, by decide, Tryz.func377.trans (bA some (by kernel_rfl))⟩,
 t0 := fI,
 a0 := iF,
 z0 := gV,
 v0 := fY,
 t3 := iU,
 a3 := Tryz.isAgg3,
 z3 := Tryz.sizeOf3,
 v3 := jh,
 t4 := gH,
 a4 := jl,
 z4 := ja,
 v4 := gO,
 t5 := iV,
 a5 := Tryz.isAgg5,
 z5 := Tryz.sizeOf5,
 v5 := ji,
 t9 := fb,
 a9 := gK,
 z9 := gq,
 v9 := fu,
 t22 := Tryz.underlying45,
 a22 := Tryz.isAgg45,
 z22 := Tryz.sizeOf45,
 v22 := Tryz.zeroValue45,
 t25 := Tryz.underlying138,
 a25 := Tryz.isAgg138,
 z25 := Tryz.sizeOf138,
 v25 := Tryz.zeroValue138,
 t39 := ir,
 a39 := Tryz.isAgg271,
 z39 := Tryz.sizeOf271,
 v39 := iG,
 t45 := Tryz.underlying335,
 a45 := Tryz.isAgg335,
 z45 := Tryz.sizeOf335,
 v45 := Tryz.zeroValue335,
 t46 := Tryz.underlying336,
 a46 := Tryz.isAgg336,
 z46 := Tryz.sizeOf336,
 v46 := Tryz.zeroValue336,
 t50 := Tryz.underlying340,
 a50 := Tryz.isAgg340,
 z50 := Tryz.sizeOf340,
 v50 := Tryz.zeroValue340,
 t53 := iu,
 a53 := Tryz.isAgg332,
 z53 := Tryz.sizeOf332,
 v53 := iH,
 t55 := iv,
 a55 := Tryz.isAgg272,
 z55 := Tryz.sizeOf272,
 v55 := iI,
 t66 := Tryz.underlying371,
 a66 := Tryz.isAgg371,
 z66 := Tryz.sizeOf371,
 v66 := Tryz.zeroValue371,
 t70 := Tryz.underlying375,
 a70 := Tryz.isAgg375,
 z70 := Tryz.sizeOf375,
 v70 := Tryz.zeroValue375,
 t76 := Tryz.underlying392,
 a76 := Tryz.isAgg392,
 z76 := Tryz.sizeOf392,
 v76 := Tryz.zeroValue392,
 t77 := Tryz.underlying248,
 a77 := Tryz.isAgg248,
 z77 := Tryz.sizeOf248,
 v77 := Tryz.zeroValue248}
def RX : Go.Shelf.Ren := ⟨fun | 6 => 379 | 8 => 260 | 9 => 387 | 19 => 319 | 20 => 307 | 21 => 391 | 22 => 392 | 23 => 393 | 24 => 394 | 25 => 395 | 26 => 396 | 27 => 397 | 28 => 398 | 29 => 399 | 36 => 401 | 31 => 357 | 32 => 358 | 37 => 402 | 38 => 403 | 39 => 404 | 41 => 405 | n => n, fun | 27 => 152 | 29 => 9 | 3 => 3 | 32 => 271 | 26 => 152 | 0 => 0 | 44 => 332 | 46 => 272 | 4 => 4 | 36 => 336 | 35 => 335 | 41 => 340 | 5 => 5 | 9 => 9 | 53 => 371 | 57 => 375 | 63 => 392 | 64 => 248 | n => n, fun | n => n⟩
theorem Sf : Go.Proofs.SlLaysM.n6 Tryz.prog RX := {
 mixed := by kernel_rfl,
 f6 := ⟨Tryz.f379.name, by decide, Tryz.func379.trans (bA some (by kernel_rfl))⟩,
 f8 := Tryz.func260.trans (bA some (by kernel_rfl)),
 f9 := ⟨Tryz.f387.name, by decide, Tryz.func387.trans (bA some (by kernel_rfl))⟩,
 f19 := Tryz.func319.trans (bA some (by kernel_rfl)),
 f20 := Tryz.func307.trans (bA some (by kernel_rfl)),
 f21 := ⟨Tryz.f391.name, by decide, Tryz.func391.trans (bA some (by kernel_rfl))⟩,
 f22 := ⟨Tryz.f392.name, by decide, Tryz.func392.trans (bA some (by kernel_rfl))⟩,
 f23 := ⟨Tryz.f393.name, by decide, Tryz.func393.trans (bA some (by kernel_rfl))⟩,
 f24 := ⟨Tryz.f394.name, by decide, Tryz.func394.trans (bA some (by kernel_rfl))⟩,
 f25 := ⟨Tryz.f395.name, by decide, Tryz.func395.trans (bA some (by kernel_rfl))⟩,
 f26 := ⟨Tryz.f396.name, by decide, Tryz.func396.trans (bA some (by kernel_rfl))⟩,
 f27 := ⟨Tryz.f397.name, by decide, Tryz.func397.trans (bA some (by kernel_rfl))⟩,
 f28 := ⟨Tryz.f398.name, by decide, Tryz.func398.trans (bA some (by kernel_rfl))⟩,
 f29 := ⟨Tryz.f399.name, by decide, Tryz.func399.trans (bA some (by kernel_rfl))⟩,
 f31 := Tryz.func357.trans (bA some (by kernel_rfl)),
 f32 := Tryz.func358.trans (bA some (by kernel_rfl)),
 f36 := ⟨Tryz.f401.name, by decide, Tryz.func401.trans (bA some (by kernel_rfl))⟩,
 f37 := ⟨Tryz.f402.name, by decide, Tryz.func402.trans (bA some (by kernel_rfl))⟩,
 f38 := ⟨Tryz.f403.name, by decide, Tryz.func403.trans (bA some (by kernel_rfl))⟩,
 f39 := ⟨Tryz.f404.name, by decide, Tryz.func404.trans (bA some (by kernel_rfl))⟩,
 f41 := ⟨Tryz.f405.name, by decide, Tryz.func405.trans (bA some (by kernel_rfl))⟩,
 t0 := fI,
 a0 := iF,
 z0 := gV,
 v0 := fY,
 t3 := iU,
 a3 := Tryz.isAgg3,
 z3 := Tryz.sizeOf3,
 v3 := jh,
 t4 := gH,
 a4 := jl,
 z4 := ja,
 v4 := gO,
 t5 := iV,
 a5 := Tryz.isAgg5,
 z5 := Tryz.sizeOf5,
 v5 := ji,
 t9 := fb,
 a9 := gK,
 z9 := gq,
 v9 := fu,
 t26 := iw,
 a26 := Tryz.isAgg152,
 z26 := Tryz.sizeOf152,
 v26 := iJ,
 t27 := iw,
 a27 := Tryz.isAgg152,
 z27 := Tryz.sizeOf152,
 v27 := iJ,
 t29 := fb,
 a29 := gK,
 z29 := gq,
 v29 := fu,
 t32 := ir,
 a32 := Tryz.isAgg271,
 z32 := Tryz.sizeOf271,
 v32 := iG,
 t35 := Tryz.underlying335,
 a35 := Tryz.isAgg335,
 z35 := Tryz.sizeOf335,
 v35 := Tryz.zeroValue335,
 t36 := Tryz.underlying336,
 a36 := Tryz.isAgg336,
 z36 := Tryz.sizeOf336,
 v36 := Tryz.zeroValue336,
 t41 := Tryz.underlying340,
 a41 := Tryz.isAgg340,
 z41 := Tryz.sizeOf340,
 v41 := Tryz.zeroValue340,
 t44 := iu,
 a44 := Tryz.isAgg332,
 z44 := Tryz.sizeOf332,
 v44 := iH,
 t46 := iv,
 a46 := Tryz.isAgg272,
 z46 := Tryz.sizeOf272,
 v46 := iI,
 t53 := Tryz.underlying371,
 a53 := Tryz.isAgg371,
 z53 := Tryz.sizeOf371,
 v53 := Tryz.zeroValue371,
 t57 := Tryz.underlying375,
 a57 := Tryz.isAgg375,
 z57 := Tryz.sizeOf375,
 v57 := Tryz.zeroValue375,
 t63 := Tryz.underlying392,
 a63 := Tryz.isAgg392,
 z63 := Tryz.sizeOf392,
 v63 := Tryz.zeroValue392,
 t64 := Tryz.underlying248,
 a64 := Tryz.isAgg248,
 z64 := Tryz.sizeOf248,
 v64 := Tryz.zeroValue248}
def Q7 : Go.Shelf.Ren := ⟨fun | 7 => 362 | 10 => 380 | n => n, fun | 23 => 247 | 26 => 9 | 3 => 4 | 28 => 379 | 0 => 0 | 27 => 378 | 33 => 148 | 4 => 4 | n => n, fun | n => n⟩
theorem RE : Go.Proofs.SlLaysZ.n7 Tryz.prog Q7 := {
 mixed := by kernel_rfl,
 f7 := ⟨Tryz.f362.name, by decide, Tryz.func362.trans (bA some (by kernel_rfl))⟩,
 f10 := ⟨Tryz.f380.name, by decide, Tryz.func380.trans (bA some (by kernel_rfl))⟩,
 t0 := fI,
 a0 := iF,
 z0 := gV,
 v0 := fY,
 t4 := gH,
 a4 := jl,
 z4 := ja,
 v4 := gO,
 t23 := Tryz.underlying247,
 a23 := Tryz.isAgg247,
 z23 := Tryz.sizeOf247,
 v23 := Tryz.zeroValue247,
 t26 := fb,
 a26 := gK,
 z26 := gq,
 v26 := fu,
 t27 := Tryz.underlying378,
 a27 := Tryz.isAgg378,
 z27 := Tryz.sizeOf378,
 v27 := Tryz.zeroValue378,
 t28 := Tryz.underlying379,
 a28 := Tryz.isAgg379,
 z28 := Tryz.sizeOf379,
 v28 := Tryz.zeroValue379,
 t33 := Tryz.underlying148,
 a33 := Tryz.isAgg148,
 z33 := Tryz.sizeOf148,
 v33 := Tryz.zeroValue148}
def QQ : Go.Shelf.Ren := ⟨fun | 6 => 361 | 8 => 378 | 9 => 379 | 11 => 386 | 13 => 260 | 12 => 387 | 23 => 319 | 24 => 307 | 14 => 391 | 15 => 392 | 16 => 393 | 17 => 394 | 18 => 395 | 19 => 396 | 20 => 397 | 21 => 398 | 22 => 399 | 25 => 401 | 26 => 357 | 27 => 358 | 28 => 402 | 29 => 403 | 30 => 404 | 31 => 405 | n => n, fun | 26 => 9 | 28 => 379 | 24 => 152 | 0 => 0 | 3 => 3 | 37 => 271 | 48 => 332 | 50 => 272 | 4 => 4 | 40 => 336 | 39 => 335 | 45 => 340 | 5 => 5 | 9 => 9 | 51 => 371 | 55 => 375 | 57 => 392 | 58 => 248 | 33 => 148 | n => n, fun | n => n⟩
theorem QS : Go.Proofs.SlLaysZ.n6 Tryz.prog QQ := {
 mixed := by kernel_rfl,
 f6 := ⟨Tryz.f361.name, by decide, Tryz.func361.trans (bA some (by kernel_rfl))⟩,
 f8 := ⟨Tryz.f378.name, by decide, Tryz.func378.trans (bA some (by kernel_rfl))⟩,
 f11 := ⟨Tryz.f386.name, by decide, Tryz.func386.trans (bA some (by kernel_rfl))⟩,
 t0 := fI,
 a0 := iF,
 z0 := gV,
 v0 := fY,
 t24 := iw,
 a24 := Tryz.isAgg152,
 z24 := Tryz.sizeOf152,
 v24 := iJ,
 t26 := fb,
 a26 := gK,
 z26 := gq,
 v26 := fu,
 t28 := Tryz.underlying379,
 a28 := Tryz.isAgg379,
 z28 := Tryz.sizeOf379,
 v28 := Tryz.zeroValue379,
 i26 := by kernel_rfl}
def Tc : Go.Shelf.Ren := ⟨fun | 171 => 50 | 243 => 122 | 246 => 190 | 283 => 250 | 284 => 251 | 285 => 252 | 286 => 253 | 129 => 307 | 317 => 306 | 318 => 308 | 319 => 309 | 320 => 310 | 337 => 354 | 338 => 355 | n => n, fun | 3 => 3 | 9 => 9 | 2 => 2 | 4 => 4 | 171 => 291 | 0 => 0 | 53 => 272 | 37 => 53 | 5 => 5 | 173 => 294 | 212 => 331 | 51 => 332 | 20 => 20 | 213 => 333 | 46 => 271 | 232 => 390 | 233 => 391 | n => n, fun | 17 => 3 | 18 => 4 | 19 => 5 | n => n⟩
theorem Se : Go.Proofs.LaysM.n171 Tryz.prog Tc := {
 mixed := by kernel_rfl,
 f129 := Tryz.func307.trans (bA some (by kernel_rfl)),
 f171 := Tryz.func50.trans (bA some (by kernel_rfl)),
 f243 := Tryz.func122.trans (bA some (by kernel_rfl)),
 f246 := Tryz.func190.trans (bA some (by kernel_rfl)),
 f283 := Tryz.func250.trans (bA some (by kernel_rfl)),
 f284 := Tryz.func251.trans (bA some (by kernel_rfl)),
 f285 := Tryz.func252.trans (bA some (by kernel_rfl)),
 f286 := Tryz.func253.trans (bA some (by kernel_rfl)),
 f317 := Tryz.func306.trans (bA some (by kernel_rfl)),
 f318 := Tryz.func308.trans (bA some (by kernel_rfl)),
 f319 := Tryz.func309.trans (bA some (by kernel_rfl)),
 f320 := Tryz.func310.trans (bA some (by kernel_rfl)),
 f337 := Tryz.func354.trans (bA some (by kernel_rfl)),
 f338 := Tryz.func355.trans (bA some (by kernel_rfl)),
 t0 := fI,
 a0 := iF,
 z0 := gV,
 v0 := fY,
 t2 := Tryz.underlying2,
 a2 := Tryz.isAgg2,
 z2 := Tryz.sizeOf2,
 v2 := Tryz.zeroValue2,
 t3 := iU,
 a3 := Tryz.isAgg3,
 z3 := Tryz.sizeOf3,
 v3 := jh,
 t4 := gH,
 a4 := jl,
 z4 := ja,
 v4 := gO,
 t5 := iV,
 a5 := Tryz.isAgg5,
 z5 := Tryz.sizeOf5,
 v5 := ji,
 t9 := fb,
 a9 := gK,
 z9 := gq,
 v9 := fu,
 t20 := Tryz.underlying20,
 a20 := Tryz.isAgg20,
 z20 := Tryz.sizeOf20,
 v20 := Tryz.zeroValue20,
 t37 := Tryz.underlying53,
 a37 := Tryz.isAgg53,
 z37 := Tryz.sizeOf53,
 v37 := Tryz.zeroValue53,
 t46 := ir,
 a46 := Tryz.isAgg271,
 z46 := Tryz.sizeOf271,
 v46 := iG,
 t51 := iu,
 a51 := Tryz.isAgg332,
 z51 := Tryz.sizeOf332,
 v51 := iH,
 t53 := iv,
 a53 := Tryz.isAgg272,
 z53 := Tryz.sizeOf272,
 v53 := iI,
 t171 := Tryz.underlying291,
 a171 := Tryz.isAgg291,
 z171 := Tryz.sizeOf291,
 v171 := Tryz.zeroValue291,
 t173 := Tryz.underlying294,
 a173 := Tryz.isAgg294,
 z173 := Tryz.sizeOf294,
 v173 := Tryz.zeroValue294,
 t212 := Tryz.underlying331,
 a212 := Tryz.isAgg331,
 z212 := Tryz.sizeOf331,
 v212 := Tryz.zeroValue331,
 t213 := Tryz.underlying333,
 a213 := Tryz.isAgg333,
 z213 := Tryz.sizeOf333,
 t232 := Tryz.underlying390,
 a232 := Tryz.isAgg390,
 z232 := Tryz.sizeOf390,
 v232 := Tryz.zeroValue390,
 t233 := Tryz.underlying391,
 a233 := Tryz.isAgg391,
 z233 := Tryz.sizeOf391,
 v233 := Tryz.zeroValue391,
 g17 := by kernel_rfl,
 g18 := by kernel_rfl,
 g19 := by kernel_rfl,
 i0 := by kernel_rfl,
 i2 := by kernel_rfl,
 i3 := by kernel_rfl,
 i4 := by kernel_rfl,
 i5 := by kernel_rfl,
 i9 := by kernel_rfl,
 i20 := by kernel_rfl,
 i37 := by kernel_rfl,
 i46 := by kernel_rfl,
 i51 := by kernel_rfl,
 i53 := by kernel_rfl,
 i171 := by kernel_rfl,
 i173 := by kernel_rfl,
 i212 := by kernel_rfl,
 i232 := by kernel_rfl,
 i233 := by kernel_rfl,
 m17 := by kernel_rfl,
 m18 := by kernel_rfl,
 m19 := by kernel_rfl}
end Go.Proofs.YtjjjihkifgdhgaaGreatDoor
namespace Go.Proofs.YtjjjihkifgdhgaaGreatDoor
open Go.IntKind renaming wrap → wi0
open Go.RowKit
set_option maxRecDepth 10000
noncomputable section
structure ju where
 jw : ByteArray
 Word : ByteArray
def jE (x : ju) : List Value := [.string x.jw, .string x.Word]
def jY (x y : ju) : Bool := (kV x.jw y.jw) && ((kV x.Word y.Word) && true)
theorem kc {x y : ju} : jY x y = true ↔ x = y := by
 cases x; cases y; simp [jY, mf]
theorem xq (x : ju) : (jE x).length = 2 := rfl
theorem vt (x : ju) : ∀ u ∈ jE x, u.oneCell' = true := by
 intro u hu
 simp only [jE, aR, dl, fa] at hu
 rcases hu with rfl | rfl <;> rfl
structure jv where
 Kind : Int
 Head : ju
 kE : ByteArray
 B : ju
 C : ju
 kL : ByteArray
def jz (x : jv) : List Value := [.int .i64 x.Kind, .string x.Head.jw, .string x.Head.Word, .string x.kE, .string x.B.jw, .string x.B.Word, .string x.C.jw, .string x.C.Word, .string x.kL]
def lI (x y : jv) : Bool := (x.Kind == y.Kind) && ((jY x.Head y.Head) && ((kV x.kE y.kE) && ((jY x.B y.B) && ((jY x.C y.C) && ((kV x.kL y.kL) && true)))))
theorem oE {x y : jv} : lI x y = true ↔ x = y := by
 cases x; cases y; simp [lI, mf, kc]
theorem kM (x : jv) : (jz x).length = 9 := rfl
theorem nz (x : jv) : ∀ u ∈ jz x, u.oneCell' = true := by
 intro u hu
 simp only [jz, aR, dl, fa] at hu
 rcases hu with rfl | rfl | rfl | rfl | rfl | rfl | rfl | rfl | rfl <;> rfl
structure jN where
 ju : ju
 kE : ByteArray
def kz (x : jN) : List Value := [.string x.ju.jw, .string x.ju.Word, .string x.kE]
def Bc (x y : jN) : Bool := (jY x.ju y.ju) && ((kV x.kE y.kE) && true)
theorem xS {x y : jN} : Bc x y = true ↔ x = y := by
 cases x; cases y; simp [Bc, mf, kc]
theorem pN (x : jN) : (kz x).length = 3 := rfl
theorem zB (x : jN) : ∀ u ∈ kz x, u.oneCell' = true := by
 intro u hu
 simp only [kz, aR, dl, fa] at hu
 rcases hu with rfl | rfl | rfl <;> rfl
structure sr where
 uy : Int
 uF : Int
def D2 (x : sr) : List Value := [.int .i64 x.uy, .int .i64 x.uF]
structure kJ where
 e : Int
def lF (x : kJ) : List Value := [.int .i64 x.e]
structure ll where
 P7 : Bool
def mu (x : ll) : List Value := [.bool x.P7]
structure Key where
 kE : ByteArray
 Key : List Int
structure Signed where
 jv : jv
 Tag : List Int
structure Formula where
 Op : Int
 K : Int
 ju : ju
 Kids : List Formula
structure ke where
 Signed : Signed
 jC : Formula
structure mj where
 ju : ju
 jC : Formula
 me : List jv
structure kD where
 Name : ByteArray
 jJ : List ke
 jW : List mj
structure mQ where
 jw : kD
 Client : kD
 Formula : Formula
 rZ : Int
 my : sr
 nB : Int
 pG : Int
 oh : Int
 Keys : List Key
def ot (a0 : ByteArray) (a : Int) : Option Int :=
 some (xx a0 a)
def ry (a0 : ByteArray) (a : Int) : Option Int :=
 ((ot a0 a).bind fun b => some b)
def vn  : List Int → Option Bool
 | [] => some true
 | d :: a => ((ry (⟨#[97, 98, 99, 100, 101, 102, 103, 104, 105, 106, 107, 108, 109, 110, 111, 112, 113, 114, 115, 116, 117, 118, 119, 120, 121, 122, 48, 49, 50, 51, 52, 53, 54, 55, 56, 57, 45]⟩ : ByteArray) d).bind fun b => (if (decide (b < 0)) then some false else (vn a)))
def Cp (a0 : ByteArray) : Option Bool :=
 ((Dt a0).bind fun a => vn a)
def sh (a0 : ByteArray) : Option Bool :=
 ((if (decide ((a0.size : Int) ≥ 1)) then some (decide ((a0.size : Int) ≤ 16)) else some false).bind fun x2 => ((if x2 then ((AM a0 0).bind fun a => ((ry (⟨#[97, 98, 99, 100, 101, 102, 103, 104, 105, 106, 107, 108, 109, 110, 111, 112, 113, 114, 115, 116, 117, 118, 119, 120, 121, 122]⟩ : ByteArray) (a.toNat : Int)).bind fun d => some (decide (d ≥ 0)))) else some false).bind fun g => ((if g then ((Cp a0).bind fun b => some b) else some false).bind fun h => some h)))
def ur (a0 : List Int) : Option (List Int) :=
 ((mE 1 ([]) a0).bind fun a => some a)
def pV (a0 : ju) : Option Bool :=
 ((sh a0.jw).bind fun d => ((if d then ((sh a0.Word).bind fun a => some a) else some false).bind fun b => some b))
def ny (a0 a : ByteArray) : Option Int :=
 some (oX a0 a)
def pB (a0 a : ByteArray) : Option Int :=
 ((ny a0 a).bind fun b => some b)
def sw  : List Int → Option Int
 | [] => some 0
 | a :: b => (if (a != 0) then some a else (sw b))
def vc (a0 : List Int) : Option Int :=
 sw a0
def pn (a0 g : ju) : Option Int :=
 ((pB a0.jw g.jw).bind fun a => ((pB a0.Word g.Word).bind fun b => ((vc ([a, b])).bind fun d => some d)))
def si (a0 : jv) : Option Bool :=
 ((pV a0.Head).bind fun A => (((if (a0.Kind == 1) then ((if A then ((sh a0.kE).bind fun b => some b) else some false).bind fun p => some (Sum.inr (p, (⟨a0.Kind, a0.Head, a0.kE, (⟨zS, zS⟩ : ju), (⟨zS, zS⟩ : ju), zS⟩ : jv)))) else (if (a0.Kind == 2) then ((if A then ((pV a0.B).bind fun d => some d) else some false).bind fun t => some (Sum.inr (t, (⟨a0.Kind, a0.Head, zS, a0.B, (⟨zS, zS⟩ : ju), zS⟩ : jv)))) else (if (a0.Kind == 3) then ((if A then ((pV a0.B).bind fun h => some h) else some false).bind fun u => ((if u then some (kV a0.B.jw a0.Head.jw) else some false).bind fun v => ((if v then ((sh a0.kL).bind fun g => some g) else some false).bind fun w => some (Sum.inr (w, (⟨a0.Kind, a0.Head, zS, a0.B, (⟨zS, zS⟩ : ju), a0.kL⟩ : jv)))))) else (if (a0.Kind == 4) then ((if A then ((pV a0.B).bind fun k => some k) else some false).bind fun x => ((if x then ((pV a0.C).bind fun j => some j) else some false).bind fun y => ((if y then ((pn a0.B a0.C).bind fun i => some (decide (i < 0))) else some false).bind fun z => some (Sum.inr (z, (⟨a0.Kind, a0.Head, zS, a0.B, a0.C, zS⟩ : jv)))))) else some (Sum.inl false))))) : Option (Bool ⊕ (Bool × jv))).bind fun s => match s with | .inl a => some a | .inr (l, m) => ((if l then some (lI m a0) else some false).bind fun n => some n)))
def pT  : Nat → Int → (List Int) → Option (Bool × (List Int))
 | 0, _, _ => none
 | h + 1, a, d => (if (decide (a ≥ 128)) then ((mE 1 d ([(IntKind.u8.wrap (BitVec.ofInt (IntKind.bits .u8) (IntKind.u8.wrap a) ||| BitVec.ofInt (IntKind.bits .u8) 128).toNat)])).bind fun g => (pT h (Int.fdiv a (2 ^ min (Int.toNat 7) (IntKind.bits .i64))) g)) else ((mE 1 d ([(IntKind.u8.wrap a)])).bind fun b => some (true, b)))
def nT (a : List Int) (b : Int) : Option (Bool × (List Int)) :=
 (if (decide (b < 0)) then some (false, a) else pT ki b a)
def xQ (a b : List Int) : Option (Bool × (List Int)) :=
 (if (decide ((b.length : Int) > 2048)) then some (false, a) else ((nT a (b.length : Int)).bind fun g => ((mE 1 g.2 b).bind fun d => some (true, d))))
def tP (a : List Int) (i : ByteArray) : Option (Bool × (List Int)) :=
 ((sh i).bind fun j => (((if j then ((Dt i).bind fun g => ((xQ a g).bind fun b => some (b.1, b.2))) else some (false, a)) : Option (Bool × (List Int))).bind fun (h, d) => some (h, d)))
def pU (a : List Int) (h : ju) : Option (Bool × (List Int)) :=
 ((pV h).bind fun l => (((if l then ((tP a h.jw).bind fun g => some (g.1, g.2)) else some (false, a)) : Option (Bool × (List Int))).bind fun (j, b) => (((if j then ((tP b h.Word).bind fun d => some (d.1, d.2)) else some (false, b)) : Option (Bool × (List Int))).bind fun (k, i) => some (k, i))))
def tO (a : List Int) : Option (List Int) :=
 ((ur a).bind fun b => some b)
def wT (a0 : jv) : Option (List Int) :=
 ((si a0).bind fun m => (if (!m) then some [] else ((nT ([]) a0.Kind).bind fun n => ((pU n.2 a0.Head).bind fun a => (((if (a0.Kind == 1) then ((tP a.2 a0.kE).bind fun g => some g.2) else (if (a0.Kind == 2) then ((pU a.2 a0.B).bind fun h => some h.2) else (if (a0.Kind == 3) then ((pU a.2 a0.B).bind fun i => ((tP i.2 a0.kL).bind fun j => some j.2)) else (if (a0.Kind == 4) then ((pU a.2 a0.B).bind fun k => ((pU k.2 a0.C).bind fun l => some l.2)) else some a.2)))) : Option (List Int)).bind fun b => ((tO b).bind fun d => some d))))))
def rq (a0 : List jv) : Option (List jv) :=
 ((mE 136 ([]) a0).bind fun a => some a)
def ox (f1 : jv → Option Bool) : List jv → Nat → Option Int
 | [], _ => some (-1)
 | d :: a, i35 => ((f1 d).bind fun b => (if b then some (i35 : Int) else (ox f1 a (i35 + 1))))
def pq (a0 : List jv) (f1 : jv → Option Bool) : Option Int :=
 ox f1 a0 0
def nA (f1 : jv → Option Bool) : Nat → (List jv) → Int → Int → Option (List jv)
 | 0, _, _, _ => none
 | n321 + 1, b, a, d => (if (decide (d < (b.length : Int))) then ((((lG b d).bind fun g => ((f1 g).bind fun i => (if (!i) then ((lG b a).bind fun k => some ((b.set (Int.toNat a) g), (wi0 .i64 (a + 1)))) else some (b, a)))) : Option ((List jv) × Int)).bind fun (h, j) => (nA f1 n321 h j (wi0 .i64 (d + 1)))) else ((sf (decide (0 ≤ a) && decide (a ≤ (b.length : Int)))).bind fun _ => ((sf (decide (0 ≤ a) && decide (a ≤ ((oy b (Int.toNat a) (⟨0, (⟨zS, zS⟩ : ju), zS, (⟨zS, zS⟩ : ju), (⟨zS, zS⟩ : ju), zS⟩ : jv)).length : Int)))).bind fun _ => some ((oy b (Int.toNat a) (⟨0, (⟨zS, zS⟩ : ju), zS, (⟨zS, zS⟩ : ju), (⟨zS, zS⟩ : ju), zS⟩ : jv)).take (Int.toNat a)))))
def qQ (a0 : List jv) (f1 : jv → Option Bool) : Option (List jv) :=
 ((pq a0 f1).bind fun a => (if (a == (-1)) then some a0 else nA f1 ki a0 a (wi0 .i64 (a + 1))))
def yi (a0 : jv) : Option Bool :=
 ((si a0).bind fun a => some (!a))
def wK (a0 a : List Int) : Option Int :=
 some (yB a0 a)
def qv (a0 g : jv) : Option Int :=
 ((wT a0).bind fun a => ((wT g).bind fun b => ((wK a b).bind fun d => some d)))
def nY (b : Int) : Nat → (List jv) → Int → Int → Option ((List jv) × Int)
 | 0, _, _, _ => none
 | i + 1, a, d, g => (if (decide (g < ((a.length - (Int.toNat b) : Nat) : Int))) then ((((lG (a.drop (Int.toNat b)) g).bind fun k => ((lG (a.drop (Int.toNat b)) (wi0 .i64 (g - 1))).bind fun l => (if (!(lI k l)) then ((lG (a.drop (Int.toNat b)) g).bind fun m => ((lG a d).bind fun n => some ((a.set (Int.toNat d) m), (wi0 .i64 (d + 1))))) else some (a, d)))) : Option ((List jv) × Int)).bind fun (h, j) => (nY b i h j (wi0 .i64 (g + 1)))) else some (a, d))
def ob (a0 : List jv) : Nat → Int → Option (List jv)
 | 0, _ => none
 | g + 1, a => (if (decide (a < (a0.length : Int))) then ((lG a0 a).bind fun h => ((lG a0 (wi0 .i64 (a - 1))).bind fun i => (if (lI h i) then ((sf (decide (0 ≤ a) && decide (a ≤ (a0.length : Int)))).bind fun _ => ((nY a ki a0 a 1).bind fun (d, b) => ((sf (decide (0 ≤ b) && decide (b ≤ (d.length : Int)))).bind fun _ => ((sf (decide (0 ≤ b) && decide (b ≤ ((oy d (Int.toNat b) (⟨0, (⟨zS, zS⟩ : ju), zS, (⟨zS, zS⟩ : ju), (⟨zS, zS⟩ : ju), zS⟩ : jv)).length : Int)))).bind fun _ => some ((oy d (Int.toNat b) (⟨0, (⟨zS, zS⟩ : ju), zS, (⟨zS, zS⟩ : ju), (⟨zS, zS⟩ : ju), zS⟩ : jv)).take (Int.toNat b)))))) else (ob a0 g (wi0 .i64 (a + 1)))))) else some a0)
def sE (a0 : List jv) : Option (List jv) :=
 (if (decide ((a0.length : Int) < 2)) then some a0 else ob a0 ki 1)
def zd (a0 : List jv) : Option (List jv) :=
 ((rq a0).bind fun g => ((qQ g (fun (x : jv) => yi x)).bind fun a => ((Af (fun (x : (jv × jv)) => qv x.1 x.2) a).bind fun b => ((sE b).bind fun d => some d))))
def pO (d : jv) : List jv → Nat → Option Int
 | [], _ => some (-1)
 | b :: a, i46 => (if (lI d b) then some (i46 : Int) else (pO d a (i46 + 1)))
def wy (a0 : List jv) (a : jv) : Option Int :=
 pO a a0 0
def rS (a0 : List jv) (a : jv) : Option Bool :=
 ((wy a0 a).bind fun b => some (decide (b ≥ 0)))
def th (a0 : List jv) (a : jv) : Option Bool :=
 ((rS a0 a).bind fun b => some b)
def za (a0 : jv) : Option (List ju) :=
 ((si a0).bind fun h => (if (!h) then some [] else (((if (a0.Kind != 1) then ((mE 32 ([a0.Head]) ([a0.B])).bind fun g => some g) else some ([a0.Head])) : Option (List ju)).bind fun a => (((if (a0.Kind == 4) then ((mE 32 a ([a0.C])).bind fun d => some d) else some a) : Option (List ju)).bind fun b => some b))))
def oq (i : jv) (a : List (ByteArray × (List jv))) (g : List jv) : List ju → (List (ju × (List jv))) → Option ((List jv) × (List (ju × (List jv))) × (List (ByteArray × (List jv))))
 | [], b => (if (i.Kind == 3) then ((mE 136 ((lm kV a i.kL).getD []) ([i])).bind fun k => some (g, b, (nZ kV a i.kL k))) else some (g, b, a))
 | d :: h, b => ((mE 136 ((lm jY b d).getD []) ([i])).bind fun j => (oq i a g h (nZ jY b d j)))
def tg (i : List (ju × (List (ByteArray × Bool)))) (a : List jv) (d : List (ju × (List jv))) (b : List (ByteArray × (List jv))) (g : List jN) (l : Int) (j : jv) : Option ((List jv) × (List (ju × (List jv))) × (List (ByteArray × (List jv)))) :=
 ((mE 136 a ([j])).bind fun k => ((za j).bind fun h => ((sf (decide (0 ≤ 1) && decide (1 ≤ (h.length : Int)))).bind fun _ => oq j b k (h.drop (Int.toNat 1)) d)))
def nH (a : List (ju × (List (ByteArray × Bool)))) (g : List jv) (i : List (ju × (List jv))) (h : List (ByteArray × (List jv))) (b : List jN) (d : Int) (j : ju) (a2 : ByteArray) : Option ((List (ju × (List (ByteArray × Bool)))) × (List jN) × Int) :=
 (if (Ah kV ((lm jY a j).getD []) a2 false) then some (a, b, d) else (((if (lm jY a j).isNone then ((Hg jY a j ([])).bind fun k => some k) else some a) : Option (List (ju × (List (ByteArray × Bool))))).bind fun l => ((GU jY kV l j a2 true).bind fun m => ((mE 48 b ([(⟨j, a2⟩ : jN)])).bind fun n => some (m, n, (wi0 .i64 (d + 1)))))))
def oz (a0 : List (ByteArray × Bool)) : Option Unit :=
 some ()
def qu (a : List (ju × (List (ByteArray × Bool)))) (b : List jv) (h : List (ju × (List jv))) (d : List (ByteArray × (List jv))) (g : List jN) (j : Int) (k : ju) : Option (List ByteArray) :=
 ((oz ((lm jY a k).getD [])).bind fun l => ((Hr ((lm jY a k).getD [])).bind fun i => some i))
def pP (a : List jv) (d : List (ju × (List jv))) (b : List (ByteArray × (List jv))) (a2 : ju) : List ByteArray → (List (ju × (List (ByteArray × Bool)))) → (List jN) → Int → Option ((List (ju × (List (ByteArray × Bool)))) × (List jN) × Int)
 | [], g, h, j => some (g, h, j)
 | l :: k, g, h, j => ((nH g a d b h j a2 l).bind fun i => (pP a d b a2 k i.1 i.2.1 i.2.2))
def tY (h : List (ju × (List (ByteArray × Bool)))) (a : List jv) (g : List (ju × (List jv))) (b : List (ByteArray × (List jv))) (d : List jN) (i : Int) (j a2 : ju) : Option ((List (ju × (List (ByteArray × Bool)))) × (List jN) × Int) :=
 ((qu h a g b d i j).bind fun k => pP a g b a2 k h d i)
def rn (a : List (ju × (List (ByteArray × Bool)))) (d : List jv) (h : List (ju × (List jv))) (g : List (ByteArray × (List jv))) (b : List jN) (i : Int) (j : jv) (a2 : jN) : Option ((List (ju × (List (ByteArray × Bool)))) × (List jN) × Int) :=
 (if (j.Kind == 2) then ((nH a d h g b i j.Head a2.kE).bind fun m => some (m.1, m.2.1, m.2.2)) else (if (j.Kind == 3) then ((tY a d h g b i (⟨a2.kE, j.kL⟩ : ju) j.Head).bind fun k => some (k.1, k.2.1, k.2.2)) else (if (j.Kind == 4) then ((if (Ah kV ((lm jY a j.B).getD []) a2.kE false) then some (Ah kV ((lm jY a j.C).getD []) a2.kE false) else some false).bind fun n => (if n then ((nH a d h g b i j.Head a2.kE).bind fun l => some (l.1, l.2.1, l.2.2)) else some (a, b, i))) else some (a, b, i))))
def oV (a : List jv) (d : List (ju × (List jv))) (b : List (ByteArray × (List jv))) (m : jv) : List ByteArray → (List (ju × (List (ByteArray × Bool)))) → (List jN) → Int → Option ((List (ju × (List (ByteArray × Bool)))) × (List jN) × Int)
 | [], g, h, j => some (g, h, j)
 | l :: k, g, h, j => ((rn g a d b h j m (⟨m.B, l⟩ : jN)).bind fun i => (oV a d b m k i.1 i.2.1 i.2.2))
def sC (h : List (ju × (List (ByteArray × Bool)))) (a : List jv) (g : List (ju × (List jv))) (b : List (ByteArray × (List jv))) (d : List jN) (i : Int) (j : jv) : Option ((List (ju × (List (ByteArray × Bool)))) × (List jN) × Int) :=
 (if (j.Kind == 1) then ((nH h a g b d i j.Head j.kE).bind fun l => some (l.1, l.2.1, l.2.2)) else ((qu h a g b d i j.B).bind fun k => oV a g b j k h d i))
def nL (i : jN) (a : List jv) (d : List (ju × (List jv))) (b : List (ByteArray × (List jv))) : List jv → (List (ju × (List (ByteArray × Bool)))) → (List jN) → Int → Option ((List (ju × (List (ByteArray × Bool)))) × (List jN) × Int)
 | [], g, h, j => some (g, h, j)
 | m :: l, g, h, j => (if (Ah kV ((lm jY g m.B).getD []) i.ju.jw false) then ((nH g a d b h j m.Head i.kE).bind fun k => (nL i a d b l k.1 k.2.1 k.2.2)) else (nL i a d b l g h j))
def oL (a : List jv) (d : List (ju × (List jv))) (b : List (ByteArray × (List jv))) (k : jN) : List jv → (List (ju × (List (ByteArray × Bool)))) → (List jN) → Int → Option ((List (ju × (List (ByteArray × Bool)))) × (List jN) × Int)
 | [], g, h, j => some (g, h, j)
 | m :: l, g, h, j => ((rn g a d b h j m k).bind fun i => (oL a d b k l i.1 i.2.1 i.2.2))
def nl (d : List jv) (b : List (ju × (List jv))) (a : List (ByteArray × (List jv))) : Nat → (List (ju × (List (ByteArray × Bool)))) → (List jN) → Int → Option ((List (ju × (List (ByteArray × Bool)))) × (List jN) × Int)
 | 0, _, _, _ => none
 | p + 1, i, g, j => (if (decide ((g.length : Int) > 0)) then ((lG g 0).bind fun h => ((sf (decide (0 ≤ 1) && decide (1 ≤ (g.length : Int)))).bind fun _ => ((oL d b a h ((lm jY b h.ju).getD []) i (g.drop (Int.toNat 1)) j).bind fun (k, l, t) => ((nL h d b a ((lm kV a h.ju.Word).getD []) k l t).bind fun (m, n, u) => (nl d b a p m n u))))) else some (i, g, j))
def uM (h : List (ju × (List (ByteArray × Bool)))) (a : List jv) (g : List (ju × (List jv))) (b : List (ByteArray × (List jv))) (d : List jN) (i : Int) : Option ((List (ju × (List (ByteArray × Bool)))) × (List jN) × Int) :=
 nl a g b ki h d i
def nJ (m : Int) : List jv → (List (ju × (List (ByteArray × Bool)))) → (List jv) → (List (ju × (List jv))) → (List (ByteArray × (List jv))) → (List jN) → Int → Option (Int × (List (ju × (List (ByteArray × Bool)))) × (List jv) × (List (ju × (List jv))) × (List (ByteArray × (List jv))) × (List jN) × Int)
 | [], d, a, g, h, i, j => ((uM d a g h i j).bind fun k => some ((wi0 .i64 (k.2.2 - m)), k.1, a, g, h, k.2.1, k.2.2))
 | l :: p, d, a, g, h, i, j => ((si l).bind fun t => ((if t then ((th a l).bind fun u => some (!u)) else some false).bind fun v => (if v then ((tg d a g h i j l).bind fun b => ((sC d b.1 b.2.1 b.2.2 i j l).bind fun n => (nJ m p n.1 b.1 b.2.1 b.2.2 n.2.1 n.2.2))) else (nJ m p d a g h i j))))
def tX (h : List (ju × (List (ByteArray × Bool)))) (a : List jv) (g : List (ju × (List jv))) (b : List (ByteArray × (List jv))) (d : List jN) (i : Int) (j : List jv) : Option (Int × (List (ju × (List (ByteArray × Bool)))) × (List jv) × (List (ju × (List jv))) × (List (ByteArray × (List jv))) × (List jN) × Int) :=
 nJ i j h a g b d i
def xh (a0 : List jv) : Option ((List (ju × (List (ByteArray × Bool)))) × (List jv) × (List (ju × (List jv))) × (List (ByteArray × (List jv))) × (List jN) × Int) :=
 ((tX ([]) ([]) ([]) ([]) ([]) 0 a0).bind fun a => some (a.2.1, a.2.2.1, a.2.2.2.1, a.2.2.2.2.1, a.2.2.2.2.2.1, a.2.2.2.2.2.2))
def pW (a0 g : jN) : Option Int :=
 ((pn a0.ju g.ju).bind fun a => ((pB a0.kE g.kE).bind fun b => ((vc ([a, b])).bind fun d => some d)))
def wx (d : List (ju × (List (ByteArray × Bool)))) (g : List jv) (j : List (ju × (List jv))) (h : List (ByteArray × (List jv))) (i : List jN) (l : Int) : Option (List jN) :=
 ((OE 48 (fun (a : ju) (b : ByteArray) => (⟨a, b⟩ : jN)) d).bind fun fs => Fm fs (fun k => ((Af (fun (x : (jN × jN)) => pW x.1 x.2) k).bind fun m => some m)))
def tM (a : List (ju × (List (ByteArray × Bool)))) (b : List jv) (h : List (ju × (List jv))) (d : List (ByteArray × (List jv))) (g : List jN) (i : Int) (j : ju) (a2 : ByteArray) : Option Bool :=
 some (Ah kV ((lm jY a j).getD []) a2 false)
def rA  : List jv → Int → Option Int
 | [], b => some b
 | a :: d, b => (rA d (wi0 .i64 (b + (wi0 .i64 ((wi0 .i64 ((wi0 .i64 ((wi0 .i64 ((wi0 .i64 ((wi0 .i64 ((wi0 .i64 ((wi0 .i64 (20 + (a.Head.jw.size : Int))) + (a.Head.Word.size : Int))) + (a.kE.size : Int))) + (a.B.jw.size : Int))) + (a.B.Word.size : Int))) + (a.C.jw.size : Int))) + (a.C.Word.size : Int))) + (a.kL.size : Int))))))
def vR (a0 : List jv) : Option Int :=
 rA a0 0
def rF  : List Signed → Int → Option Int
 | [], a => some a
 | b :: d, a => ((vR ([b.jv])).bind fun g => (rF d (wi0 .i64 (a + (wi0 .i64 (g + (b.Tag.length : Int)))))))
def qk (h : List Signed) : List Key → Int → Option Int
 | [], a => ((rF h a).bind fun b => some b)
 | d :: g, a => (qk h g (wi0 .i64 (a + (wi0 .i64 ((wi0 .i64 (10 + (d.kE.size : Int))) + (d.Key.length : Int))))))
def uo (a0 : List Key) (a : List Signed) : Option Int :=
 qk a a0 0
def qg (a0 : ByteArray) : Nat → Int → Option Bool
 | 0, _ => none
 | d + 1, b => (if (decide (b < (a0.size : Int))) then ((AM a0 b).bind fun a => ((if (decide ((a.toNat : Int) < 97)) then some true else some (decide ((a.toNat : Int) > 122))).bind fun g => ((if g then ((if (decide ((a.toNat : Int) < 48)) then some true else some (decide ((a.toNat : Int) > 57))).bind fun j => some j) else some false).bind fun h => ((if h then some ((a.toNat : Int) != 45) else some false).bind fun i => (if i then some false else (qg a0 d (wi0 .i64 (b + 1)))))))) else some true)
def rf (a0 : ByteArray) : Option Bool :=
 ((if (kV a0 zS) then some true else some (decide ((a0.size : Int) > 16))).bind fun x2 => ((if x2 then some true else ((AM a0 0).bind fun b => some (decide ((b.toNat : Int) < 97)))).bind fun d => ((if d then some true else ((AM a0 0).bind fun a => some (decide ((a.toNat : Int) > 122)))).bind fun g => (if g then some false else qg a0 ki 0))))
def sO (a0 : ju) : Option Bool :=
 ((rf a0.jw).bind fun d => ((if d then ((rf a0.Word).bind fun a => some a) else some false).bind fun b => some b))
def wR (a0 a : ju) : Option Bool :=
 ((if (pY a0.jw a.jw) then some true else ((if (kV a0.jw a.jw) then some (pY a0.Word a.Word) else some false).bind fun d => some d)).bind fun b => some b)
def vZ (a0 : jv) : Option Bool :=
 ((sO a0.Head).bind fun w => (if (!w) then some false else (if (a0.Kind == 1) then ((rf a0.kE).bind fun i => ((if i then some (jY a0.B (⟨zS, zS⟩ : ju)) else some false).bind fun k => ((if k then some (jY a0.C (⟨zS, zS⟩ : ju)) else some false).bind fun l => ((if l then some (kV a0.kL zS) else some false).bind fun m => some m)))) else ((if (!(kV a0.kE zS)) then some true else ((sO a0.B).bind fun d => some (!d))).bind fun n => (if n then some false else (if (a0.Kind == 2) then ((if (jY a0.C (⟨zS, zS⟩ : ju)) then some (kV a0.kL zS) else some false).bind fun p => some p) else (if (a0.Kind == 3) then ((if (jY a0.C (⟨zS, zS⟩ : ju)) then some (kV a0.B.jw a0.Head.jw) else some false).bind fun t => ((if t then ((rf a0.kL).bind fun j => some j) else some false).bind fun u => some u)) else ((if (a0.Kind == 4) then some (kV a0.kL zS) else some false).bind fun v => ((if v then ((sO a0.C).bind fun b => some b) else some false).bind fun g => ((if g then ((wR a0.B a0.C).bind fun a => some a) else some false).bind fun h => some h))))))))))
def sY  : Nat → Int → ByteArray → Option ByteArray
 | 0, _, _ => none
 | n45 + 1, a, b => (if (decide (a ≥ 128)) then ((pS b (EB ([(IntKind.u8.wrap (wi0 .i64 (128 + (Int.tmod a 128))))]))).bind fun d => (sY n45 (wi0 .i64 (Int.tdiv a 128)) d)) else ((pS b (EB ([(IntKind.u8.wrap a)]))).bind fun g => some g))
def qw (a0 : Int) : Option ByteArray :=
 sY ki a0 zS
def tT (a0 : ByteArray) : Option ByteArray :=
 ((qw (a0.size : Int)).bind fun a => ((pS a a0).bind fun b => some b))
def sQ (a0 : ju) : Option ByteArray :=
 ((tT a0.jw).bind fun a => ((tT a0.Word).bind fun b => ((pS a b).bind fun d => some d)))
def AD (a0 : jv) : Option ByteArray :=
 ((qw a0.Kind).bind fun g => ((sQ a0.Head).bind fun h => ((pS g h).bind fun a => (if (a0.Kind == 1) then ((tT a0.kE).bind fun i => ((pS a i).bind fun m => some m)) else ((sQ a0.B).bind fun j => ((pS a j).bind fun b => (((if (a0.Kind == 3) then ((tT a0.kL).bind fun l => ((pS b l).bind fun p => some p)) else some b) : Option ByteArray).bind fun d => (((if (a0.Kind == 4) then ((sQ a0.C).bind fun k => ((pS d k).bind fun n => some n)) else some d) : Option ByteArray).bind fun t => some t))))))))
def vQ (a0 : jv) : Option ByteArray :=
 ((vZ a0).bind fun a => (if (!a) then some zS else ((AD a0).bind fun b => some b)))
def sI (a0 d : jv) : Option Int :=
 ((vQ a0).bind fun a => ((vQ d).bind fun b => (if (pY a b) then some (-1) else (if (!(pY a b || kV a b)) then some 1 else some 0))))
def rD (a : List jv) : List jv → Bool → jv → Option (Bool × jv)
 | [], d, g => some (d, g)
 | b :: h, d, g => ((vZ b).bind fun i => ((if i then ((if ((a.length : Int) == 0) then some true else ((lG a (wi0 .i64 ((a.length : Int) - 1))).bind fun t => ((sI t b).bind fun k => some (decide (k < 0))))).bind fun p => some p) else some false).bind fun l => ((if l then ((if (!d) then some true else ((sI b g).bind fun j => some (decide (j < 0)))).bind fun n => some n) else some false).bind fun m => (if m then (rD a h true b) else (rD a h d g)))))
def tz (a0 : List jv) : Nat → (List jv) → Option (List jv)
 | 0, _ => none
 | d + 1, a => ((rD a a0 false (⟨0, (⟨zS, zS⟩ : ju), zS, (⟨zS, zS⟩ : ju), (⟨zS, zS⟩ : ju), zS⟩ : jv)).bind fun (g, h) => (if (!g) then some a else ((mE 136 a ([h])).bind fun b => (tz a0 d b))))
def yc (a0 : List jv) : Option (List jv) :=
 tz a0 ki ([])
def sH (g : List jv) : List jv → Nat → Option Bool
 | [], _ => some true
 | d :: b, i90 => ((lG g (i90 : Int)).bind fun a => (if (!(lI d a)) then some false else (sH g b (i90 + 1))))
def vh (a0 a : List jv) : Option Bool :=
 (if ((a0.length : Int) != (a.length : Int)) then some false else sH a a0 0)
def xk (d : jv) : List jv → Option Bool
 | [] => some false
 | b :: a => (if (lI b d) then some true else (xk d a))
def xY (a0 : List jv) (a : jv) : Option Bool :=
 xk a a0
def rI (a : List ByteArray) : List ByteArray → ByteArray → Option ByteArray
 | [], d => some d
 | b :: g, d => ((rf b).bind fun i => ((if i then ((if ((a.length : Int) == 0) then some true else ((lG a (wi0 .i64 ((a.length : Int) - 1))).bind fun h => some (!(pY b h || kV b h)))).bind fun m => some m) else some false).bind fun j => ((if j then ((if (kV d zS) then some true else some (pY b d)).bind fun l => some l) else some false).bind fun k => (if k then (rI a g b) else (rI a g d)))))
def tC (a0 : List ByteArray) : Nat → (List ByteArray) → Option (List ByteArray)
 | 0, _ => none
 | g + 1, a => ((rI a a0 zS).bind fun b => (if (kV b zS) then some a else ((mE 16 a ([b])).bind fun d => (tC a0 g d))))
def zY (a0 : List ByteArray) : Option (List ByteArray) :=
 tC a0 ki ([])
def rL  : List jv → (List ByteArray) → Option (List ByteArray)
 | [], b => ((zY b).bind fun g => some g)
 | a :: h, b => ((mE 16 b ([a.kE, a.Head.jw, a.B.jw, a.C.jw])).bind fun d => (rL h d))
def ye (a0 : List jv) : Option (List ByteArray) :=
 rL a0 ([])
def vM (g : ju) (a2 : ByteArray) : List jN → Option Bool
 | [] => some false
 | b :: d => ((if (jY b.ju g) then some (kV b.kE a2) else some false).bind fun a => (if a then some true else (vM g a2 d)))
def uB (a0 : List jN) (a : ju) (a2 : ByteArray) : Option Bool :=
 vM a a2 a0
def ux (a0 : List jN) (i : jv) (a3 : ByteArray) : List ByteArray → Option Bool
 | [] => some false
 | a :: b => ((uB a0 i.B a).bind fun d => ((if d then ((uB a0 (⟨a, i.kL⟩ : ju) a3).bind fun g => some g) else some false).bind fun h => (if h then some true else (ux a0 i a3 b))))
def zh (a0 : List jN) (a : jv) (a2 : List ByteArray) (a3 : ByteArray) : Option Bool :=
 (if (a.Kind == 1) then some (kV a.kE a3) else (if (a.Kind == 2) then ((uB a0 a.B a3).bind fun g => some g) else (if (a.Kind == 4) then ((uB a0 a.B a3).bind fun h => ((if h then ((uB a0 a.C a3).bind fun b => some b) else some false).bind fun d => some d)) else ux a0 a a3 a2)))
def tE (a0 a : jN) : Option Bool :=
 ((wR a0.ju a.ju).bind fun g => ((if g then some true else ((if (jY a0.ju a.ju) then some (pY a0.kE a.kE) else some false).bind fun d => some d)).bind fun b => some b))
def oI (b a0 : List jN) : List jN → Nat → Int → Option Int
 | [], _, a => some a
 | h :: g, d, a => ((if ((b.length : Int) == 0) then some true else ((lG b (wi0 .i64 ((b.length : Int) - 1))).bind fun p => ((tE p h).bind fun j => some j))).bind fun k => ((if k then ((if (decide (a < 0)) then some true else ((lG a0 a).bind fun n => ((tE h n).bind fun i => some i))).bind fun m => some m) else some false).bind fun l => (if l then (oI b a0 g (d + 1) (d : Int)) else (oI b a0 g (d + 1) a))))
def oF (a0 : List jN) : List jN → (List jN) → Option (List jN)
 | [], a => some a
 | i :: d, a => ((oI a a0 a0 0 (-1)).bind fun b => (if (decide (b ≥ 0)) then ((lG a0 b).bind fun h => ((mE 48 a ([h])).bind fun g => (oF a0 d g))) else (oF a0 d a)))
def zQ (a0 : List jN) : Option (List jN) :=
 oF a0 a0 ([])
def uq (b : jv) (m : List ByteArray) : List ByteArray → (List jN) → Bool → Option ((List jN) × Bool)
 | [], a, g => some (a, g)
 | d :: h, a, g => ((uB a b.Head d).bind fun j => ((if (!j) then ((zh a b m d).bind fun k => some k) else some false).bind fun l => (if l then ((mE 48 a ([(⟨b.Head, d⟩ : jN)])).bind fun i => (uq b m h i true)) else (uq b m h a g))))
def we (j : List ByteArray) : List jv → (List jN) → Bool → Option ((List jN) × Bool)
 | [], a, b => some (a, b)
 | h :: d, a, b => ((uq h j j a b).bind fun (g, i) => (we j d g i))
def um (i : List ByteArray) (j : List jv) : Nat → (List jN) → Option (List jN)
 | 0, _ => none
 | b + 1, h => ((we i j h false).bind fun (a, g) => (if (!g) then ((zQ a).bind fun d => some d) else (um i j b a)))
def vB (a0 : List jv) : Option (List jN) :=
 ((yc a0).bind fun b => ((ye b).bind fun a => um a b ki ([])))
def vl (a0 : List jv) (b : ByteArray) : Option ((List (ju × (List (ByteArray × Bool)))) × (List jv) × (List (ju × (List jv))) × (List (ByteArray × (List jv))) × (List jN) × Int × ByteArray) :=
 ((xh a0).bind fun a => some (a.1, a.2.1, a.2.2.1, a.2.2.2.1, a.2.2.2.2.1, a.2.2.2.2.2, b))
def nj (f1 : ke → Option Bool) : List ke → Nat → Option Int
 | [], _ => some (-1)
 | d :: a, i47 => ((f1 d).bind fun b => (if b then some (i47 : Int) else (nj f1 a (i47 + 1))))
def qb (a0 : List ke) (f1 : ke → Option Bool) : Option Int :=
 nj f1 a0 0
def wD (a0 : ke) (a : jv) : Option Bool :=
 some (lI a0.Signed.jv a)
def yV (a0 : kD) (d : jv) : Option (ke × Bool) :=
 ((qb a0.jJ (fun (x : ke) => wD x d)).bind fun a => (if (decide (a < 0)) then some ((⟨(⟨(⟨0, (⟨zS, zS⟩ : ju), zS, (⟨zS, zS⟩ : ju), (⟨zS, zS⟩ : ju), zS⟩ : jv), []⟩ : Signed), (⟨0, 0, (⟨zS, zS⟩ : ju), []⟩ : Formula)⟩ : ke), false) else ((lG a0.jJ a).bind fun b => some (b, true))))
def uC (a0 : List mj) : Option (List mj) :=
 ((mE 128 ([]) a0).bind fun a => some a)
def nN (f1 : mj → Option Bool) : List mj → Nat → Option Int
 | [], _ => some (-1)
 | d :: a, i47 => ((f1 d).bind fun b => (if b then some (i47 : Int) else (nN f1 a (i47 + 1))))
def uR (a0 : List mj) (f1 : mj → Option Bool) : Option Int :=
 nN f1 a0 0
def nF (f1 : mj → Option Bool) : Nat → (List mj) → Int → Int → Option (List mj)
 | 0, _, _, _ => none
 | i + 1, b, a, d => (if (decide (d < (b.length : Int))) then ((((lG b d).bind fun g => ((f1 g).bind fun j => (if (!j) then ((lG b a).bind fun l => some ((b.set (Int.toNat a) g), (wi0 .i64 (a + 1)))) else some (b, a)))) : Option ((List mj) × Int)).bind fun (h, k) => (nF f1 i h k (wi0 .i64 (d + 1)))) else ((sf (decide (0 ≤ a) && decide (a ≤ (b.length : Int)))).bind fun _ => ((sf (decide (0 ≤ a) && decide (a ≤ ((oy b (Int.toNat a) (⟨(⟨zS, zS⟩ : ju), (⟨0, 0, (⟨zS, zS⟩ : ju), []⟩ : Formula), []⟩ : mj)).length : Int)))).bind fun _ => some ((oy b (Int.toNat a) (⟨(⟨zS, zS⟩ : ju), (⟨0, 0, (⟨zS, zS⟩ : ju), []⟩ : Formula), []⟩ : mj)).take (Int.toNat a)))))
def rl (a0 : List mj) (f1 : mj → Option Bool) : Option (List mj) :=
 ((uR a0 f1).bind fun a => (if (a == (-1)) then some a0 else nF f1 ki a0 a (wi0 .i64 (a + 1))))
def rM (a0 : mj) (a : jv) : Option Bool :=
 ((th a0.me a).bind fun b => some (!b))
def yl (a0 : kD) (b : jv) : Option (List mj) :=
 ((uC a0.jW).bind fun d => ((rl d (fun (x : mj) => rM x b)).bind fun a => some a))
def pa (h : Int) (rec : Formula → Int → Option (Int × Int)) : List Formula → Int → Int → Option (Int × Int)
 | [], a, d => some (a, d)
 | i :: g, a, d => (if (decide (a > h)) then some (a, d) else ((rec i (wi0 .i64 (h - a))).bind fun b => (pa h rec g (wi0 .i64 (a + b.1)) (if b.2 > d then b.2 else d))))
def vC (rec : Formula → Int → Option (Int × Int)) (a0 : Formula) (d : Int) : Option (Int × Int) :=
 ((pa d rec a0.Kids 1 0).bind fun (a, b) => some (a, (wi0 .i64 (b + 1))))
def od : Nat → Formula → Int → Option (Int × Int)
 | 0 => fun _ _ => none
 | n + 1 => vC (od n)
def xo (a0 : Formula) : Option (Int × Int) :=
 ((od ki a0 4096).bind fun a => (if (decide (a.1 > 4096)) then some (0, 0) else some (a.1, a.2)))
def xn (a0 : Formula) : Option Bool :=
 (if (a0.Op == 1) then ((pV a0.ju).bind fun g => ((if g then some ((a0.Kids.length : Int) == 0) else some false).bind fun h => ((if h then some (a0.K == 0) else some false).bind fun i => some i))) else ((if (a0.Op == 2) then some (a0.Op == 2) else some (a0.Op == 3)).bind fun j => (if j then ((if (jY a0.ju (⟨zS, zS⟩ : ju)) then some (a0.K == 0) else some false).bind fun k => some k) else ((if (a0.Op == 4) then some (jY a0.ju (⟨zS, zS⟩ : ju)) else some false).bind fun l => ((if l then some (decide (a0.K ≥ 0)) else some false).bind fun a => ((if a then some (decide (a0.K ≤ (a0.Kids.length : Int))) else some false).bind fun b => ((if b then some (decide ((a0.Kids.length : Int) ≥ 1)) else some false).bind fun d => some d)))))))
def nk (f1 : Formula → Option Bool) : List Formula → Nat → Option Int
 | [], _ => some (-1)
 | d :: a, i41 => ((f1 d).bind fun b => (if b then some (i41 : Int) else (nk f1 a (i41 + 1))))
def sN (a0 : List Formula) (f1 : Formula → Option Bool) : Option Int :=
 nk f1 a0 0
def nP (a0 : List Formula) (f1 : Formula → Option Bool) : Option Bool :=
 ((sN a0 f1).bind fun a => some (decide (a ≥ 0)))
def uw (rec : Formula → Option Bool) (a0 : Formula) : Option Bool :=
 ((rec a0).bind fun a => some (!a))
def vI (rec : Formula → Option Bool) (a0 : Formula) : Option Bool :=
 ((xn a0).bind fun d => ((if d then some (decide ((a0.Kids.length : Int) ≤ 8)) else some false).bind fun g => ((if g then ((nP a0.Kids (fun (x : Formula) => uw rec x)).bind fun a => some (!a)) else some false).bind fun b => some b)))
def qY : Nat → Formula → Option Bool
 | 0 => fun _ => none
 | n + 1 => vI (qY n)
def qX (a0 : Formula) : Option Bool :=
 ((xo a0).bind fun b => ((if (decide (b.1 ≥ 1)) then some (decide (b.1 ≤ 64)) else some false).bind fun h => ((if h then some (decide (b.2 ≤ 6)) else some false).bind fun d => ((if d then ((qY ki a0).bind fun a => some a) else some false).bind fun g => some g))))
def tw (a0 : Formula) (a : Int) : Option Bool :=
 ((if (a0.Op == a) then some ((a0.Kids.length : Int) == 0) else some false).bind fun x6 => some x6)
def zg  : Option Formula :=
 some (⟨2, 0, (⟨zS, zS⟩ : ju), []⟩ : Formula)
def zO  : Option Formula :=
 some (⟨3, 0, (⟨zS, zS⟩ : ju), []⟩ : Formula)
def qm (a0 : Int) : List Formula → (List Formula) → Option (List Formula)
 | [], a => some a
 | b :: d, a => (if (b.Op == a0) then ((mE 72 a b.Kids).bind fun g => (qm a0 d g)) else ((mE 72 a ([b])).bind fun h => (qm a0 d h)))
def AJ (a0 : Int) (a : List Formula) : Option (List Formula) :=
 qm a0 a ([])
def qx (a0 : Formula) (a : Int) : Option Bool :=
 ((tw a0 a).bind fun b => some b)
def rO (a0 : List Formula) : Option (List Formula) :=
 ((mE 72 ([]) a0).bind fun a => some a)
def lL (p : Int) (f3 : (Formula × Formula) → Option Int) : Nat → (List Formula) → Int → Option (List Formula)
 | 0, _, _ => none
 | h + 1, b, a => ((if (decide (a > p)) then ((lG b a).bind fun k => ((lG b (wi0 .i64 (a - 1))).bind fun l => ((f3 (k, l)).bind fun i => some (decide (i < 0))))) else some false).bind fun j => (if j then ((lG b (wi0 .i64 (a - 1))).bind fun g => ((lG b a).bind fun d => ((lG b a).bind fun m => ((lG (b.set (Int.toNat a) g) (wi0 .i64 (a - 1))).bind fun n => (lL p f3 h ((b.set (Int.toNat a) g).set (Int.toNat (wi0 .i64 (a - 1))) (⟨d.Op, d.K, d.ju, d.Kids⟩ : Formula)) (wi0 .i64 (a - 1))))))) else some b))
def lA (a2 h : Int) (f3 : (Formula × Formula) → Option Int) : Nat → (List Formula) → Int → Option (List Formula)
 | 0, _, _ => none
 | g + 1, b, a => (if (decide (a < a2)) then ((lL h f3 ki b a).bind fun d => (lA a2 h f3 g d (wi0 .i64 (a + 1)))) else some b)
def mW (a0 : List Formula) (a a2 : Int) (f3 : (Formula × Formula) → Option Int) : Option (List Formula) :=
 lA a2 a f3 ki a0 (wi0 .i64 (a + 1))
def mc (a3 a2 h : Int) : Nat → (List Formula) → Int → Option (List Formula)
 | 0, _, _ => none
 | i + 1, b, a => (if (decide (a < a3)) then ((lG b (wi0 .i64 (a2 + a))).bind fun g => ((lG b (wi0 .i64 (h + a))).bind fun d => ((lG b (wi0 .i64 (h + a))).bind fun j => ((lG (b.set (Int.toNat (wi0 .i64 (h + a))) g) (wi0 .i64 (a2 + a))).bind fun k => (mc a3 a2 h i ((b.set (Int.toNat (wi0 .i64 (h + a))) g).set (Int.toNat (wi0 .i64 (a2 + a))) (⟨d.Op, d.K, d.ju, d.Kids⟩ : Formula)) (wi0 .i64 (a + 1))))))) else some b)
def mS (a0 : List Formula) (a a2 a3 : Int) (f4 : (Formula × Formula) → Option Int) : Option (List Formula) :=
 mc a3 a2 a ki a0 0
def mx (a2 : Int) (f4 : (Formula × Formula) → Option Int) : Nat → (List Formula) → Int → Int → Option (List Formula)
 | 0, _, _, _ => none
 | n185 + 1, d, a, b => (if (a != b) then (if (decide (a > b)) then ((mS d (wi0 .i64 (a2 - a)) a2 b f4).bind fun g => (mx a2 f4 n185 g (wi0 .i64 (a - b)) b)) else ((mS d (wi0 .i64 (a2 - a)) (wi0 .i64 ((wi0 .i64 (a2 + b)) - a)) a f4).bind fun h => (mx a2 f4 n185 h a (wi0 .i64 (b - a))))) else ((mS d (wi0 .i64 (a2 - a)) a2 a f4).bind fun i => some i))
def mM (a0 : List Formula) (a a2 a3 : Int) (f4 : (Formula × Formula) → Option Int) : Option (List Formula) :=
 mx a2 f4 ki a0 (wi0 .i64 (a2 - a)) (wi0 .i64 (a3 - a2))
def mh (h : Int) : Nat → (List Formula) → Int → Option (List Formula)
 | 0, _, _ => none
 | i + 1, b, a => (if (decide (a < (wi0 .i64 (h - 1)))) then ((lG b (wi0 .i64 (a + 1))).bind fun g => ((lG b a).bind fun d => ((lG b a).bind fun j => ((lG (b.set (Int.toNat a) g) (wi0 .i64 (a + 1))).bind fun k => (mh h i ((b.set (Int.toNat a) g).set (Int.toNat (wi0 .i64 (a + 1))) (⟨d.Op, d.K, d.ju, d.Kids⟩ : Formula)) (wi0 .i64 (a + 1))))))) else some b)
def lh (a0 : List Formula) (j : Int) (f4 : (Formula × Formula) → Option Int) : Nat → Int → Int → Option (List Formula)
 | 0, _, _ => none
 | n325 + 1, a, b => (if (decide (a < b)) then ((lG a0 (wi0 .i64 (Int.fdiv (IntKind.u64.wrap (wi0 .i64 (a + b))) (2 ^ min (Int.toNat 1) (IntKind.bits .u64))))).bind fun h => ((lG a0 j).bind fun i => ((f4 (h, i)).bind fun g => (if (decide (g < 0)) then (lh a0 j f4 n325 (wi0 .i64 ((wi0 .i64 (Int.fdiv (IntKind.u64.wrap (wi0 .i64 (a + b))) (2 ^ min (Int.toNat 1) (IntKind.bits .u64)))) + 1)) b) else (lh a0 j f4 n325 a (wi0 .i64 (Int.fdiv (IntKind.u64.wrap (wi0 .i64 (a + b))) (2 ^ min (Int.toNat 1) (IntKind.bits .u64))))))))) else ((mh a ki a0 j).bind fun d => some d))
def mg (g : Int) : Nat → (List Formula) → Int → Option (List Formula)
 | 0, _, _ => none
 | i + 1, b, a => (if (decide (a > g)) then ((lG b (wi0 .i64 (a - 1))).bind fun h => ((lG b a).bind fun d => ((lG b a).bind fun j => ((lG (b.set (Int.toNat a) h) (wi0 .i64 (a - 1))).bind fun k => (mg g i ((b.set (Int.toNat a) h).set (Int.toNat (wi0 .i64 (a - 1))) (⟨d.Op, d.K, d.ju, d.Kids⟩ : Formula)) (wi0 .i64 (a - 1))))))) else some b)
def lj (a0 : List Formula) (a2 : Int) (f4 : (Formula × Formula) → Option Int) : Nat → Int → Int → Option (List Formula)
 | 0, _, _ => none
 | d + 1, a, b => (if (decide (a < b)) then ((lG a0 a2).bind fun i => ((lG a0 (wi0 .i64 (Int.fdiv (IntKind.u64.wrap (wi0 .i64 (a + b))) (2 ^ min (Int.toNat 1) (IntKind.bits .u64))))).bind fun j => ((f4 (i, j)).bind fun h => (if (!(decide (h < 0))) then (lj a0 a2 f4 d (wi0 .i64 ((wi0 .i64 (Int.fdiv (IntKind.u64.wrap (wi0 .i64 (a + b))) (2 ^ min (Int.toNat 1) (IntKind.bits .u64)))) + 1)) b) else (lj a0 a2 f4 d a (wi0 .i64 (Int.fdiv (IntKind.u64.wrap (wi0 .i64 (a + b))) (2 ^ min (Int.toNat 1) (IntKind.bits .u64))))))))) else ((mg a ki a0 a2).bind fun g => some g))
def kP (a0 : List Formula) (d a3 a2 : Int) (f4 : (Formula × Formula) → Option Int) (rec : (List Formula) → Int → Int → Int → ((Formula × Formula) → Option Int) → Option (List Formula)) : Nat → Int → Int → Option (List Formula)
 | 0, _, _ => none
 | i + 1, a, b => (if (decide (a < b)) then ((lG a0 (wi0 .i64 ((wi0 .i64 ((wi0 .i64 ((wi0 .i64 (Int.fdiv (IntKind.u64.wrap (wi0 .i64 (d + a3))) (2 ^ min (Int.toNat 1) (IntKind.bits .u64)))) + a2)) - 1)) - (wi0 .i64 (Int.fdiv (IntKind.u64.wrap (wi0 .i64 (a + b))) (2 ^ min (Int.toNat 1) (IntKind.bits .u64))))))).bind fun n => ((lG a0 (wi0 .i64 (Int.fdiv (IntKind.u64.wrap (wi0 .i64 (a + b))) (2 ^ min (Int.toNat 1) (IntKind.bits .u64))))).bind fun p => ((f4 (n, p)).bind fun j => (if (!(decide (j < 0))) then (kP a0 d a3 a2 f4 rec i (wi0 .i64 ((wi0 .i64 (Int.fdiv (IntKind.u64.wrap (wi0 .i64 (a + b))) (2 ^ min (Int.toNat 1) (IntKind.bits .u64)))) + 1)) b) else (kP a0 d a3 a2 f4 rec i a (wi0 .i64 (Int.fdiv (IntKind.u64.wrap (wi0 .i64 (a + b))) (2 ^ min (Int.toNat 1) (IntKind.bits .u64))))))))) else ((((if (decide (a < a2)) then some (decide (a2 < (wi0 .i64 ((wi0 .i64 ((wi0 .i64 (Int.fdiv (IntKind.u64.wrap (wi0 .i64 (d + a3))) (2 ^ min (Int.toNat 1) (IntKind.bits .u64)))) + a2)) - a)))) else some false).bind fun v => (if v then ((mM a0 a a2 (wi0 .i64 ((wi0 .i64 ((wi0 .i64 (Int.fdiv (IntKind.u64.wrap (wi0 .i64 (d + a3))) (2 ^ min (Int.toNat 1) (IntKind.bits .u64)))) + a2)) - a)) f4).bind fun m => some m) else some a0)) : Option (List Formula)).bind fun g => ((((if (decide (d < a)) then some (decide (a < (wi0 .i64 (Int.fdiv (IntKind.u64.wrap (wi0 .i64 (d + a3))) (2 ^ min (Int.toNat 1) (IntKind.bits .u64)))))) else some false).bind fun u => (if u then ((rec g d a (wi0 .i64 (Int.fdiv (IntKind.u64.wrap (wi0 .i64 (d + a3))) (2 ^ min (Int.toNat 1) (IntKind.bits .u64)))) f4).bind fun l => some l) else some g)) : Option (List Formula)).bind fun h => ((if (decide ((wi0 .i64 (Int.fdiv (IntKind.u64.wrap (wi0 .i64 (d + a3))) (2 ^ min (Int.toNat 1) (IntKind.bits .u64)))) < (wi0 .i64 ((wi0 .i64 ((wi0 .i64 (Int.fdiv (IntKind.u64.wrap (wi0 .i64 (d + a3))) (2 ^ min (Int.toNat 1) (IntKind.bits .u64)))) + a2)) - a)))) then some (decide ((wi0 .i64 ((wi0 .i64 ((wi0 .i64 (Int.fdiv (IntKind.u64.wrap (wi0 .i64 (d + a3))) (2 ^ min (Int.toNat 1) (IntKind.bits .u64)))) + a2)) - a)) < a3)) else some false).bind fun t => (if t then ((rec h (wi0 .i64 (Int.fdiv (IntKind.u64.wrap (wi0 .i64 (d + a3))) (2 ^ min (Int.toNat 1) (IntKind.bits .u64)))) (wi0 .i64 ((wi0 .i64 ((wi0 .i64 (Int.fdiv (IntKind.u64.wrap (wi0 .i64 (d + a3))) (2 ^ min (Int.toNat 1) (IntKind.bits .u64)))) + a2)) - a)) a3 f4).bind fun k => some k) else some h)))))
def oO (rec : (List Formula) → Int → Int → Int → ((Formula × Formula) → Option Int) → Option (List Formula)) (a0 : List Formula) (a a2 a3 : Int) (f4 : (Formula × Formula) → Option Int) : Option (List Formula) :=
 (if ((wi0 .i64 (a2 - a)) == 1) then lh a0 a f4 ki a2 a3 else (if ((wi0 .i64 (a3 - a2)) == 1) then lj a0 a2 f4 ki a a2 else (((if (decide (a2 > (wi0 .i64 (Int.fdiv (IntKind.u64.wrap (wi0 .i64 (a + a3))) (2 ^ min (Int.toNat 1) (IntKind.bits .u64)))))) then some ((wi0 .i64 ((wi0 .i64 ((wi0 .i64 (Int.fdiv (IntKind.u64.wrap (wi0 .i64 (a + a3))) (2 ^ min (Int.toNat 1) (IntKind.bits .u64)))) + a2)) - a3)), (wi0 .i64 (Int.fdiv (IntKind.u64.wrap (wi0 .i64 (a + a3))) (2 ^ min (Int.toNat 1) (IntKind.bits .u64))))) else some (a, a2)) : Option (Int × Int)).bind fun (b, d) => kP a0 a a3 a2 f4 rec ki b d)))
def lD : Nat → (List Formula) → Int → Int → Int → ((Formula × Formula) → Option Int) → Option (List Formula)
 | 0 => fun _ _ _ _ _ => none
 | n + 1 => oO (lD n)
def mw (j b : Int) (f2 : (Formula × Formula) → Option Int) : Nat → (List Formula) → Int → Int → Option ((List Formula) × Int)
 | 0, _, _, _ => none
 | h + 1, g, d, a => (if (decide (a ≤ j)) then ((lD ki g d (wi0 .i64 (d + b)) a f2).bind fun i => (mw j b f2 h i a (wi0 .i64 (a + (wi0 .i64 (2 * b)))))) else some (g, d))
def lX (k : Int) (f2 : (Formula × Formula) → Option Int) : Nat → (List Formula) → Int → Option (List Formula)
 | 0, _, _ => none
 | i + 1, d, a => (if (decide (a < k)) then ((mw k a f2 ki d 0 (wi0 .i64 (2 * a))).bind fun (g, b) => (((if (decide ((wi0 .i64 (b + a)) < k)) then ((lD ki g b (wi0 .i64 (b + a)) k f2).bind fun j => some j) else some g) : Option (List Formula)).bind fun h => (lX k f2 i h (wi0 .i64 (a * 2))))) else some d)
def lY (j : Int) (f2 : (Formula × Formula) → Option Int) : Nat → (List Formula) → Int → Int → Option (List Formula)
 | 0, _, _, _ => none
 | n123 + 1, d, i, a => (if (decide (a ≤ j)) then ((mW d i a f2).bind fun g => (lY j f2 n123 g a (wi0 .i64 (a + 20)))) else ((mW d i j f2).bind fun h => ((lX j f2 ki h 20).bind fun b => some b)))
def qT (a0 : List Formula) (a : Int) (f2 : (Formula × Formula) → Option Int) : Option (List Formula) :=
 lY a f2 ki a0 0 20
def oB (a0 : List Formula) (f1 : (Formula × Formula) → Option Int) : Option (List Formula) :=
 ((qT a0 (a0.length : Int) f1).bind fun a => some a)
def qn (rec : (List Int) → Formula → Option (List Int)) : List Formula → (List Int) → Option (List Int)
 | [], a => some a
 | g :: b, a => ((rec a g).bind fun d => (qn rec b d))
def vK (rec : (List Int) → Formula → Option (List Int)) (b : List Int) (a : Formula) : Option (List Int) :=
 ((nT b a.Op).bind fun i => (if (a.Op == 1) then ((pU i.2 a.ju).bind fun h => some h.2) else (((if (a.Op == 4) then ((nT i.2 a.K).bind fun d => some d.2) else some i.2) : Option (List Int)).bind fun g => ((nT g (a.Kids.length : Int)).bind fun j => qn rec a.Kids j.2))))
def pI : Nat → (List Int) → Formula → Option (List Int)
 | 0 => fun _ _ => none
 | n + 1 => vK (pI n)
def wE (a : List Int) (b : Formula) : Option (Bool × (List Int)) :=
 ((qX b).bind fun d => (if (!d) then some (false, a) else ((pI ki a b).bind fun g => some (true, g))))
def sX (a0 : Formula) : Option (List Int) :=
 ((wE ([]) a0).bind fun b => ((tO b.2).bind fun a => some a))
def sU (a0 g : Formula) : Option Int :=
 ((sX a0).bind fun a => ((sX g).bind fun b => ((wK a b).bind fun d => some d)))
def vq (a0 : List Formula) : Option (List Formula) :=
 ((rO a0).bind fun b => ((oB b (fun (x : (Formula × Formula)) => sU x.1 x.2)).bind fun a => some a))
def mJ (b : Int) (f1 : (Formula × Formula) → Option Bool) : Nat → (List Formula) → Int → Int → Option ((List Formula) × Int)
 | 0, _, _, _ => none
 | i + 1, a, d, g => (if (decide (g < ((a.length - (Int.toNat b) : Nat) : Int))) then ((((lG (a.drop (Int.toNat b)) g).bind fun l => ((lG (a.drop (Int.toNat b)) (wi0 .i64 (g - 1))).bind fun m => ((f1 (l, m)).bind fun j => (if (!j) then ((lG (a.drop (Int.toNat b)) g).bind fun n => ((lG a d).bind fun p => some ((a.set (Int.toNat d) n), (wi0 .i64 (d + 1))))) else some (a, d))))) : Option ((List Formula) × Int)).bind fun (h, k) => (mJ b f1 i h k (wi0 .i64 (g + 1)))) else some (a, d))
def mH (a0 : List Formula) (f1 : (Formula × Formula) → Option Bool) : Nat → Int → Option (List Formula)
 | 0, _ => none
 | g + 1, a => (if (decide (a < (a0.length : Int))) then ((lG a0 a).bind fun i => ((lG a0 (wi0 .i64 (a - 1))).bind fun j => ((f1 (i, j)).bind fun h => (if h then ((sf (decide (0 ≤ a) && decide (a ≤ (a0.length : Int)))).bind fun _ => ((mJ a f1 ki a0 a 1).bind fun (d, b) => ((sf (decide (0 ≤ b) && decide (b ≤ (d.length : Int)))).bind fun _ => ((sf (decide (0 ≤ b) && decide (b ≤ ((oy d (Int.toNat b) (⟨0, 0, (⟨zS, zS⟩ : ju), []⟩ : Formula)).length : Int)))).bind fun _ => some ((oy d (Int.toNat b) (⟨0, 0, (⟨zS, zS⟩ : ju), []⟩ : Formula)).take (Int.toNat b)))))) else (mH a0 f1 g (wi0 .i64 (a + 1))))))) else some a0)
def po (a0 : List Formula) (f1 : (Formula × Formula) → Option Bool) : Option (List Formula) :=
 (if (decide ((a0.length : Int) < 2)) then some a0 else mH a0 f1 ki 1)
def lg (h : List Formula) (f2 : (Formula × Formula) → Option Bool) : List Formula → Nat → Option Bool
 | [], _ => some true
 | g :: d, i95 => ((lG h (i95 : Int)).bind fun b => ((f2 (g, b)).bind fun a => (if (!a) then some false else (lg h f2 d (i95 + 1)))))
def mI (a0 a : List Formula) (f2 : (Formula × Formula) → Option Bool) : Option Bool :=
 (if ((a0.length : Int) != (a.length : Int)) then some false else lg a f2 a0 0)
def wv (rec : Formula → Formula → Option Bool) (a0 a : Formula) : Option Bool :=
 ((if (a0.Op == a.Op) then some (a0.K == a.K) else some false).bind fun d => ((if d then some (jY a0.ju a.ju) else some false).bind fun g => ((if g then ((mI a0.Kids a.Kids (fun (x : (Formula × Formula)) => rec x.1 x.2)).bind fun b => some b) else some false).bind fun h => some h)))
def nE : Nat → Formula → Formula → Option Bool
 | 0 => fun _ _ => none
 | n + 1 => wv (nE n)
def oa (a0 : kJ) (d : Int) (a2 : List Formula) : Option (Formula × kJ) :=
 ((AJ d a2).bind fun j => ((nP j (fun (x : Formula) => qx x (wi0 .i64 (5 - d)))).bind fun g => (if g then some ((⟨(wi0 .i64 (5 - d)), 0, (⟨zS, zS⟩ : ju), []⟩ : Formula), a0) else ((vq j).bind fun h => ((po h (fun (x : (Formula × Formula)) => nE ki x.1 x.2)).bind fun a => (((if (decide ((a.length : Int) > 64)) then some (⟨12⟩ : kJ) else some a0) : Option kJ).bind fun b => (if ((a.length : Int) == 1) then ((lG a 0).bind fun i => some (i, b)) else some ((⟨d, 0, (⟨zS, zS⟩ : ju), a⟩ : Formula), b))))))))
def mD (a0 : kJ) : List Formula → Int → (List Formula) → Option (Formula × kJ)
 | [], b, a => (if (decide (b ≤ 0)) then (zg.bind fun m => some (m, a0)) else (if (decide (b > (a.length : Int))) then (zO.bind fun n => some (n, a0)) else (if (b == (a.length : Int)) then ((oa a0 2 a).bind fun h => some (h.1, h.2)) else (if (b == 1) then ((oa a0 3 a).bind fun i => some (i.1, i.2)) else ((vq a).bind fun p => some ((⟨4, b, (⟨zS, zS⟩ : ju), p⟩ : Formula), a0))))))
 | g :: d, b, a => ((tw g 2).bind fun k => (if k then (mD a0 d (wi0 .i64 (b - 1)) a) else ((tw g 3).bind fun l => (if (!l) then ((mE 72 a ([g])).bind fun j => (mD a0 d b j)) else (mD a0 d b a)))))
def qy (a0 : kJ) (a : Int) (a2 : List Formula) : Option (Formula × kJ) :=
 mD a0 a2 a ([])
def nG (rec : kJ → Formula → Option (Formula × kJ)) (l : Formula) : List Formula → (List Formula) → kJ → Option (Formula × kJ)
 | [], a, b => (if (l.Op == 4) then ((qy b l.K a).bind fun g => some (g.1, g.2)) else ((oa b l.Op a).bind fun h => some (h.1, h.2)))
 | k :: i, a, b => ((rec b k).bind fun d => ((mE 72 a ([d.1])).bind fun j => (nG rec l i j d.2)))
def rK (rec : kJ → Formula → Option (Formula × kJ)) (a0 : kJ) (a : Formula) : Option (Formula × kJ) :=
 (if (a.Op == 1) then some (a, a0) else nG rec a a.Kids ([]) a0)
def nh : Nat → kJ → Formula → Option (Formula × kJ)
 | 0 => fun _ _ => none
 | n + 1 => rK (nh n)
def yb (a0 : Formula) : Option (Formula × Int) :=
 ((qX a0).bind fun g => (if (!g) then some ((⟨0, 0, (⟨zS, zS⟩ : ju), []⟩ : Formula), 11) else ((nh ki (⟨0⟩ : kJ) a0).bind fun a => ((if (a.2.e != 0) then some true else ((qX a.1).bind fun b => some (!b))).bind fun d => (if d then some ((⟨0, 0, (⟨zS, zS⟩ : ju), []⟩ : Formula), 12) else some (a.1, 0))))))
def yj (a0 b : Formula) : Option (Formula × Int) :=
 ((yb (⟨2, 0, (⟨zS, zS⟩ : ju), [a0, b]⟩ : Formula)).bind fun a => some (a.1, a.2))
def tp  : List Formula → Int → Int → Int → ju → (List Formula) → Option (Int × Int × Int × ju × (List Formula))
 | [], d, g, h, i, b => some (d, g, h, i, b)
 | k :: j, d, g, h, i, b => (if (d != 0) then some (d, g, h, i, b) else ((yj (⟨g, h, i, b⟩ : Formula) k).bind fun a => (tp j a.2 ((a.1).Op) ((a.1).K) ((a.1).ju) ((a.1).Kids))))
def wm (a0 : List Formula) : Option (Formula × Int) :=
 ((lG a0 0).bind fun x6 => ((yb x6).bind fun a => ((sf (decide (0 ≤ 1) && decide (1 ≤ (a0.length : Int)))).bind fun _ => ((tp (a0.drop (Int.toNat 1)) a.2 ((a.1).Op) ((a.1).K) ((a.1).ju) ((a.1).Kids)).bind fun (b, g, h, i, d) => (if (b != 0) then some ((⟨0, 0, (⟨zS, zS⟩ : ju), []⟩ : Formula), b) else some ((⟨g, h, i, d⟩ : Formula), 0))))))
def ul  : List mj → (List Formula) → Option (Formula × Int)
 | [], a => ((wm a).bind fun b => some (b.1, b.2))
 | h :: d, a => ((mE 72 a ([h.jC])).bind fun g => (ul d g))
def AY (a0 : kD) (d : jv) : Option (Formula × Int) :=
 ((yV a0 d).bind fun a => (if (!a.2) then some ((⟨0, 0, (⟨zS, zS⟩ : ju), []⟩ : Formula), 42) else ((yl a0 d).bind fun b => ul b ([(a.1).jC]))))
def oZ (rec : Formula → (ju → Option Bool) → Option Bool) (f1 : ju → Option Bool) (a0 : Formula) : List Formula → Int → Option Bool
 | [], a => (if (a0.Op == 2) then some (a == (a0.Kids.length : Int)) else (if (a0.Op == 3) then some (decide (a > 0)) else some (decide (a ≥ a0.K))))
 | g :: b, a => ((rec g f1).bind fun d => (if d then (oZ rec f1 a0 b (wi0 .i64 (a + 1))) else (oZ rec f1 a0 b a)))
def vG (rec : Formula → (ju → Option Bool) → Option Bool) (a0 : Formula) (f1 : ju → Option Bool) : Option Bool :=
 (if (a0.Op == 1) then ((f1 a0.ju).bind fun a => some a) else oZ rec f1 a0 a0.Kids 0)
def pK : Nat → Formula → (ju → Option Bool) → Option Bool
 | 0 => fun _ _ => none
 | n + 1 => vG (pK n)
def vp (a0 : Formula) (f1 : ju → Option Bool) : Option Bool :=
 ((qX a0).bind fun d => ((if d then ((pK ki a0 f1).bind fun a => some a) else some false).bind fun b => some b))
def pL (a0 : ju) (h : List (ju × (List (ByteArray × Bool)))) (a : List jv) (g : List (ju × (List jv))) (b : List (ByteArray × (List jv))) (d : List jN) (i : Int) (c1 : ByteArray) : Option Bool :=
 ((tM h a g b d i a0 c1).bind fun j => some j)
def qS (a0 : kD) (d : ((List (ju × (List (ByteArray × Bool)))) × (List jv) × (List (ju × (List jv))) × (List (ByteArray × (List jv))) × (List jN) × Int × ByteArray)) : List ke → (List jv) → Option (List jv)
 | [], a => ((zd a).bind fun j => some j)
 | g :: b, a => ((AY a0 g.Signed.jv).bind fun r417 => ((if (r417.2 == 0) then ((vp r417.1 (fun (x : ju) => pL x d.1 d.2.1 d.2.2.1 d.2.2.2.1 d.2.2.2.2.1 d.2.2.2.2.2.1 d.2.2.2.2.2.2)).bind fun i => some i) else some false).bind fun k => (if k then ((mE 136 a ([g.Signed.jv])).bind fun h => (qS a0 d b h)) else (qS a0 d b a))))
def sd (a0 : kD) (a : List jv) (a2 : ByteArray) : Option (List jv) :=
 ((vl a a2).bind fun b => qS a0 b a0.jJ ([]))
def pj (a0 k : kD) : Nat → (List jv) → (List jv) → Int → Option ((List jv) × (List jv) × Int)
 | 0, _, _, _ => none
 | i + 1, a, b, h => ((sd a0 b k.Name).bind fun d => ((sd k a a0.Name).bind fun g => ((if ((d.length : Int) == (a.length : Int)) then some ((g.length : Int) == (b.length : Int)) else some false).bind fun j => (if j then some (a, b, h) else (pj a0 k i d g (wi0 .i64 (h + 1)))))))
def wj (a0 a : kD) : Option ((List jv) × (List jv) × Int) :=
 pj a0 a ki ([]) ([]) 0
def rE (rec : (List Formula) → Option Int) : List Formula → Int → Option Int
 | [], b => some b
 | a :: g, b => ((rec a.Kids).bind fun d => (rE rec g (wi0 .i64 (b + (wi0 .i64 ((wi0 .i64 (1 + (wi0 .i64 (Int.tdiv (wi0 .i64 ((a.ju.jw.size : Int) + (a.ju.Word.size : Int))) 16)))) + d))))))
def wO (rec : (List Formula) → Option Int) (a0 : List Formula) : Option Int :=
 rE rec a0 0
def oA : Nat → (List Formula) → Option Int
 | 0 => fun _ => none
 | n + 1 => wO (oA n)
def rH  : List mj → Int → Option Int
 | [], b => some b
 | a :: d, b => ((oA ki ([a.jC])).bind fun g => ((vR a.me).bind fun h => (rH d (wi0 .i64 (b + (wi0 .i64 ((wi0 .i64 ((wi0 .i64 ((a.ju.jw.size : Int) + (a.ju.Word.size : Int))) + (wi0 .i64 (20 * g)))) + h)))))))
def rB (a0 : kD) : List ke → Int → Option Int
 | [], a => ((rH a0.jW a).bind fun d => some d)
 | b :: g, a => ((((uo ([]) ([b.Signed])).bind fun j => some (j, ([b.jC]))) : Option (Int × (List Formula))).bind fun (k, h) => ((oA ki h).bind fun i => (rB a0 g (wi0 .i64 (a + (wi0 .i64 (k + (wi0 .i64 (20 * i)))))))))
def wg (a0 : kD) : Option Int :=
 rB a0 a0.jJ (a0.Name.size : Int)
def wi (a0 : mQ) : Option Int :=
 ((((wg a0.jw).bind fun g => ((wg a0.Client).bind fun h => some ((wi0 .i64 (g + h)), ([a0.Formula])))) : Option (Int × (List Formula))).bind fun (i, a) => ((oA ki a).bind fun b => ((uo a0.Keys ([])).bind fun d => some (wi0 .i64 ((wi0 .i64 (i + (wi0 .i64 (20 * b)))) + d)))))
def qi (h : ByteArray) : List jN → (List ju) → Option (List ju)
 | [], a => some a
 | g :: b, a => (if (kV g.kE h) then ((mE 32 a ([g.ju])).bind fun d => (qi h b d)) else (qi h b a))
def sK (a0 : List jN) (a : ByteArray) : Option (List ju) :=
 qi a a0 ([])
def rG (rec : Formula → Option Int) : List Formula → Int → Option Int
 | [], a => some a
 | g :: d, a => ((rec g).bind fun b => (rG rec d (wi0 .i64 (a + b))))
def wS (rec : Formula → Option Int) (a0 : Formula) : Option Int :=
 rG rec a0.Kids 1
def rc : Nat → Formula → Option Int
 | 0 => fun _ => none
 | n + 1 => wS (rc n)
def sv (rec : Formula → Option Int) : List Formula → Int → Option Int
 | [], a => some (wi0 .i64 (a + 1))
 | g :: d, a => ((rec g).bind fun b => (sv rec d (if b > a then b else a)))
def xL (rec : Formula → Option Int) (a0 : Formula) : Option Int :=
 sv rec a0.Kids 0
def rW : Nat → Formula → Option Int
 | 0 => fun _ => none
 | n + 1 => xL (rW n)
def sJ (rec : Formula → Option Bool) : List Formula → Option Bool
 | [] => some true
 | d :: a => ((rec d).bind fun b => (if (!b) then some false else (sJ rec a)))
def xF (rec : Formula → Option Bool) (a0 : Formula) : Option Bool :=
 (if (a0.Op == 1) then ((sO a0.ju).bind fun n => ((if n then some ((a0.Kids.length : Int) == 0) else some false).bind fun h => ((if h then some (a0.K == 0) else some false).bind fun i => some i))) else ((if (decide (a0.Op < 1)) then some true else some (decide (a0.Op > 4))).bind fun j => ((if j then some true else some (!(jY a0.ju (⟨zS, zS⟩ : ju)))).bind fun k => ((if k then some true else some (decide ((a0.Kids.length : Int) > 8))).bind fun l => (if l then some false else ((if (decide (a0.Op < 4)) then some (a0.K != 0) else some false).bind fun m => ((if m then some true else ((if (a0.Op == 4) then ((if (decide ((a0.Kids.length : Int) < 1)) then some true else some (decide (a0.K < 0))).bind fun d => ((if d then some true else some (decide (a0.K > (a0.Kids.length : Int)))).bind fun g => some g)) else some false).bind fun b => some b)).bind fun a => (if a then some false else sJ rec a0.Kids))))))))
def sn : Nat → Formula → Option Bool
 | 0 => fun _ => none
 | n + 1 => xF (sn n)
def pZ (a0 : Formula) : Option Bool :=
 ((rc ki a0).bind fun h => ((if (decide (h ≤ 64)) then ((rW ki a0).bind fun b => some (decide (b ≤ 6))) else some false).bind fun d => ((if d then ((sn ki a0).bind fun a => some a) else some false).bind fun g => some g)))
def vv (a0 : Formula) (a : Int) : Option Bool :=
 ((if (a0.Op == a) then some ((a0.Kids.length : Int) == 0) else some false).bind fun x6 => some x6)
def rJ (rec : Formula → Option ByteArray) : List Formula → ByteArray → Option ByteArray
 | [], a => some a
 | h :: g, a => ((rec h).bind fun b => ((pS a b).bind fun d => (rJ rec g d)))
def wQ (rec : Formula → Option ByteArray) (a0 : Formula) : Option ByteArray :=
 ((qw a0.Op).bind fun g => (if (a0.Op == 1) then ((sQ a0.ju).bind fun k => ((pS g k).bind fun h => some h)) else (((if (a0.Op == 4) then ((qw a0.K).bind fun a => ((pS g a).bind fun b => some b)) else some g) : Option ByteArray).bind fun j => ((qw (a0.Kids.length : Int)).bind fun d => ((pS j d).bind fun i => rJ rec a0.Kids i)))))
def pe : Nat → Formula → Option ByteArray
 | 0 => fun _ => none
 | n + 1 => wQ (pe n)
def wC (a0 j : Formula) : Option Int :=
 ((((pZ a0).bind fun h => (if h then ((pe ki a0).bind fun i => some i) else some zS)) : Option ByteArray).bind fun a => ((((pZ j).bind fun d => (if d then ((pe ki j).bind fun g => some g) else some zS)) : Option ByteArray).bind fun b => (if (pY a b) then some (-1) else (if (!(pY a b || kV a b)) then some 1 else some 0))))
def sF (h : Formula) (rec : Formula → Formula → Option Bool) : List Formula → Nat → Option Bool
 | [], _ => some true
 | d :: a, i182 => ((lG h.Kids (i182 : Int)).bind fun g => ((rec d g).bind fun b => (if (!b) then some false else (sF h rec a (i182 + 1)))))
def xJ (rec : Formula → Formula → Option Bool) (a0 a : Formula) : Option Bool :=
 ((if (a0.Op != a.Op) then some true else some (a0.K != a.K)).bind fun b => ((if b then some true else some (!(jY a0.ju a.ju))).bind fun d => ((if d then some true else some ((a0.Kids.length : Int) != (a.Kids.length : Int))).bind fun g => (if g then some false else sF a rec a0.Kids 0))))
def qP : Nat → Formula → Formula → Option Bool
 | 0 => fun _ _ => none
 | n + 1 => xJ (qP n)
def pC (b : List Formula) (d : Formula) : Nat → Int → Option Int
 | 0, _ => none
 | g + 1, a => ((if (decide (a > 0)) then ((lG b (wi0 .i64 (a - 1))).bind fun j => ((wC j d).bind fun h => some (decide (h > 0)))) else some false).bind fun i => (if i then (pC b d g (wi0 .i64 (a - 1))) else some a))
def mC (p : Bool) : List Formula → (List Formula) → Option (List Formula)
 | [], a => some a
 | d :: g, a => ((pC a d ki (a.length : Int)).bind fun b => ((if p then some (decide (b > 0)) else some false).bind fun l => ((if l then ((lG a (wi0 .i64 (b - 1))).bind fun n => ((qP ki n d).bind fun k => some k)) else some false).bind fun m => (if m then (mC p g a) else ((sf (decide (0 ≤ b) && decide (b ≤ (a.length : Int)))).bind fun _ => ((mE 72 ([]) (a.take (Int.toNat b))).bind fun h => ((mE 72 h ([d])).bind fun i => ((sf (decide (0 ≤ b) && decide (b ≤ (a.length : Int)))).bind fun _ => ((mE 72 i (a.drop (Int.toNat b))).bind fun j => (mC p g j))))))))))
def vd (a0 : List Formula) (a : Bool) : Option (List Formula) :=
 mC a a0 ([])
def oW (g : Int) (a0 : ll) : List Formula → Option ((Formula × ll) ⊕ Unit)
 | [] => some (Sum.inr ())
 | d :: a => ((vv d (wi0 .i64 (5 - g))).bind fun b => (if b then some (Sum.inl ((⟨(wi0 .i64 (5 - g)), 0, (⟨zS, zS⟩ : ju), []⟩ : Formula), a0)) else (oW g a0 a)))
def nc (i : Int) (a0 : ll) : List Formula → (List Formula) → Option (Formula × ll)
 | [], a => ((oW i a0 a).bind fun s => match s with | .inl l => some l | .inr _ => ((vd a true).bind fun b => ((if a0.P7 then some true else some (decide ((b.length : Int) > 64))).bind fun h => (if ((b.length : Int) == 1) then ((lG b 0).bind fun n => some (n, (⟨h⟩ : ll))) else some ((⟨i, 0, (⟨zS, zS⟩ : ju), b⟩ : Formula), (⟨h⟩ : ll))))))
 | d :: g, a => (if (d.Op == i) then ((mE 72 a d.Kids).bind fun j => (nc i a0 g j)) else ((vv d (wi0 .i64 (5 - i))).bind fun m => (if m then some ((⟨(wi0 .i64 (5 - i)), 0, (⟨zS, zS⟩ : ju), []⟩ : Formula), a0) else ((mE 72 a ([d])).bind fun k => (nc i a0 g k)))))
def oQ (a0 : ll) (a : Int) (a2 : List Formula) : Option (Formula × ll) :=
 nc a a0 a2 ([])
def mV  : List Formula → Int → (List Formula) → Option (Int × (List Formula))
 | [], b, a => some (b, a)
 | g :: d, b, a => ((vv g 2).bind fun i => (if i then (mV d (wi0 .i64 (b - 1)) a) else ((vv g 3).bind fun j => (if (!j) then ((mE 72 a ([g])).bind fun h => (mV d b h)) else (mV d b a)))))
def nm (rec : ll → Formula → Option (Formula × ll)) (t : Formula) : List Formula → (List Formula) → ll → Option (Formula × ll)
 | [], g, a => (if (decide (t.Op < 4)) then ((oQ a t.Op g).bind fun i => some (i.1, i.2)) else ((mV g t.K ([])).bind fun (d, b) => (if (decide (d ≤ 0)) then some ((⟨2, 0, (⟨zS, zS⟩ : ju), []⟩ : Formula), a) else (if (decide (d > (b.length : Int))) then some ((⟨3, 0, (⟨zS, zS⟩ : ju), []⟩ : Formula), a) else (if (d == (b.length : Int)) then ((oQ a 2 b).bind fun j => some (j.1, j.2)) else (if (d == 1) then ((oQ a 3 b).bind fun k => some (k.1, k.2)) else ((vd b false).bind fun n => some ((⟨4, d, (⟨zS, zS⟩ : ju), n⟩ : Formula), a))))))))
 | p :: l, g, a => ((rec a p).bind fun h => ((mE 72 g ([h.1])).bind fun m => (nm rec t l m h.2)))
def rX (rec : ll → Formula → Option (Formula × ll)) (a0 : ll) (a : Formula) : Option (Formula × ll) :=
 (if (a.Op == 1) then some (a, a0) else nm rec a a.Kids ([]) a0)
def mY : Nat → ll → Formula → Option (Formula × ll)
 | 0 => fun _ _ => none
 | n + 1 => rX (mY n)
def yS (a0 : Formula) : Option (Formula × Int) :=
 ((pZ a0).bind fun g => (if (!g) then some ((⟨0, 0, (⟨zS, zS⟩ : ju), []⟩ : Formula), 11) else ((mY ki (⟨false⟩ : ll) a0).bind fun a => ((if a.2.P7 then some true else ((pZ a.1).bind fun b => some (!b))).bind fun d => (if d then some ((⟨0, 0, (⟨zS, zS⟩ : ju), []⟩ : Formula), 12) else some (a.1, 0))))))
def sM (n : jv) : List mj → Int → Int → Int → ju → (List Formula) → Option (Int × Int × Int × ju × (List Formula))
 | [], d, g, h, i, b => some (d, g, h, i, b)
 | k :: j, d, g, h, i, b => ((if (d == 0) then ((xY k.me n).bind fun l => some l) else some false).bind fun m => (if m then ((yS (⟨2, 0, (⟨zS, zS⟩ : ju), [(⟨g, h, i, b⟩ : Formula), k.jC]⟩ : Formula)).bind fun a => (sM n j a.2 ((a.1).Op) ((a.1).K) ((a.1).ju) ((a.1).Kids))) else (sM n j d g h i b)))
def wc (l : jv) (a0 : kD) : List ke → Option (Formula × Int)
 | [] => some ((⟨0, 0, (⟨zS, zS⟩ : ju), []⟩ : Formula), 42)
 | b :: g => (if (!(lI b.Signed.jv l)) then (wc l a0 g) else ((yS b.jC).bind fun a => ((sM l a0.jW a.2 ((a.1).Op) ((a.1).K) ((a.1).ju) ((a.1).Kids)).bind fun (d, i, j, k, h) => (if (d != 0) then some ((⟨0, 0, (⟨zS, zS⟩ : ju), []⟩ : Formula), d) else some ((⟨i, j, k, h⟩ : Formula), 0)))))
def A0 (a0 : kD) (a : jv) : Option (Formula × Int) :=
 wc a a0 a0.jJ
def xj (d : ju) : List ju → Option Bool
 | [] => some false
 | b :: a => (if (jY b d) then some true else (xj d a))
def Aa (a0 : List ju) (a : ju) : Option Bool :=
 xj a a0
def qZ (rec : Formula → (List ju) → Option Bool) (g : List ju) (a0 : Formula) : List Formula → Int → Option Bool
 | [], a => (if (a0.Op == 2) then some (a == (a0.Kids.length : Int)) else (if (a0.Op == 3) then some (decide (a > 0)) else some (decide (a ≥ a0.K))))
 | h :: b, a => ((rec h g).bind fun d => (if d then (qZ rec g a0 b (wi0 .i64 (a + 1))) else (qZ rec g a0 b a)))
def xK (rec : Formula → (List ju) → Option Bool) (a0 : Formula) (a : List ju) : Option Bool :=
 (if (a0.Op == 1) then ((Aa a a0.ju).bind fun b => some b) else qZ rec a a0 a0.Kids 0)
def qL : Nat → Formula → (List ju) → Option Bool
 | 0 => fun _ _ => none
 | n + 1 => xK (qL n)
def qV (a0 : kD) (h : List ju) : List ke → (List jv) → Option (List jv)
 | [], a => ((yc a).bind fun k => some k)
 | g :: b, a => ((A0 a0 g.Signed.jv).bind fun d => ((if (d.2 == 0) then ((qL ki d.1 h).bind fun j => some j) else some false).bind fun l => (if l then ((mE 136 a ([g.Signed.jv])).bind fun i => (qV a0 h b i)) else (qV a0 h b a))))
def wY (a0 : kD) (b : List jv) (a2 : ByteArray) : Option (List jv) :=
 ((vB b).bind fun d => ((sK d a2).bind fun a => qV a0 a a0.jJ ([])))
def sR (a0 l : kD) : Nat → (List jv) → (List jv) → Int → Option ((List jv) × (List jv) × Int)
 | 0, _, _, _ => none
 | n296 + 1, a, b, h => ((wY a0 b l.Name).bind fun d => ((wY l a a0.Name).bind fun g => ((vh d a).bind fun i => ((if i then ((vh g b).bind fun j => some j) else some false).bind fun k => (if k then some (a, b, h) else (sR a0 l n296 d g (wi0 .i64 (h + 1))))))))
def xf (a0 a : kD) : Option ((List jv) × (List jv) × Int) :=
 sR a0 a ki ([]) ([]) 0
def AA (a0 d : kD) : Option ((List jv) × (List (ju × (List (ByteArray × Bool)))) × (List jv) × (List (ju × (List jv))) × (List (ByteArray × (List jv))) × (List jN) × Int × ByteArray) :=
 ((wj a0 d).bind fun b => ((xh b.2.1).bind fun a => some (b.2.1, a.1, a.2.1, a.2.2.1, a.2.2.2.1, a.2.2.2.2.1, a.2.2.2.2.2, d.Name)))
def vJ (a0 : ju) (h : List (ju × (List (ByteArray × Bool)))) (a : List jv) (g : List (ju × (List jv))) (b : List (ByteArray × (List jv))) (d : List jN) (j : Int) (i : ByteArray) (k : List ke) (l : List mj) : Option Bool :=
 ((tM h a g b d j a0 i).bind fun m => some m)
def wI (a0 b : kD) (a2 : Formula) : Option Bool :=
 ((AA a0 b).bind fun a => ((vp a2 (fun (x : ju) => vJ x a.2.1 a.2.2.1 a.2.2.2.1 a.2.2.2.2.1 a.2.2.2.2.2.1 a.2.2.2.2.2.2.1 a.2.2.2.2.2.2.2 b.jJ b.jW)).bind fun d => some d))
def AB (a0 g : kD) : Option (List ju) :=
 ((xf a0 g).bind fun a => ((vB a.2.1).bind fun b => ((sK b g.Name).bind fun d => some d)))
def tu (a0 h : kD) (a2 : Formula) : Option Bool :=
 ((pZ a2).bind fun g => ((if g then ((AB a0 h).bind fun a => ((qL ki a2 a).bind fun b => some b)) else some false).bind fun d => some d))
def pQ (g : List jv) : List jv → Nat → Option Bool
 | [], _ => some true
 | d :: b, i90 => ((lG g (i90 : Int)).bind fun a => (if (!(lI d a)) then some false else (pQ g b (i90 + 1))))
def ru (a0 a : List jv) : Option Bool :=
 (if ((a0.length : Int) != (a.length : Int)) then some false else pQ a a0 0)
def qa (a0 : List jv) (f1 : jv → Option Bool) : Option Bool :=
 ((pq a0 f1).bind fun a => some (decide (a ≥ 0)))
structure lK where
 uy : ByteArray
 uF : ByteArray
def mA (x : lK) : List Value := [.string x.uy, .string x.uF]
def BN (x y : lK) : Bool := (kV x.uy y.uy) && ((kV x.uF y.uF) && true)
theorem By (x : lK) : (mA x).length = 2 := rfl
theorem GL (x : lK) : ∀ u ∈ mA x, u.oneCell' = true := by
 intro u hu
 simp only [mA, aR, dl, fa] at hu
 rcases hu with rfl | rfl <;> rfl
structure jO where
 key : jv
 text : ByteArray
 sign : ByteArray
def ko (x : jO) : List Value := [.int .i64 x.key.Kind, .string x.key.Head.jw, .string x.key.Head.Word, .string x.key.kE, .string x.key.B.jw, .string x.key.B.Word, .string x.key.C.jw, .string x.key.C.Word, .string x.key.kL, .string x.text, .string x.sign]
theorem xb (x : jO) : (ko x).length = 11 := rfl
theorem Aq (x : jO) : ∀ u ∈ ko x, u.oneCell' = true := by
 intro u hu
 simp only [ko, aR, dl, fa] at hu
 rcases hu with rfl | rfl | rfl | rfl | rfl | rfl | rfl | rfl | rfl | rfl | rfl <;> rfl
structure jQ where
 key : ju
 text : ByteArray
 sign : ByteArray
def kQ (x : jQ) : List Value := [.string x.key.jw, .string x.key.Word, .string x.text, .string x.sign]
def sk (a0 : ke) (a : ke → Option jv) (c1 : jv) : Option Bool :=
 ((a a0).bind fun b => some (lI b c1))
def wU (a0 : List ke) (b : jv) (a : ke → Option jv) : Option Int :=
 ((qb a0 (fun (x : ke) => sk x a b)).bind fun d => some d)
def qO (f2 : ke → Option jv) (a0 : List ke) (f4 : ke → Option ByteArray) : List ke → (List jO) → Option (List jO)
 | [], a => some a
 | b :: d, a => ((f2 b).bind fun h => ((wU a0 h f2).bind fun i => (if (decide (i < 0)) then ((f2 b).bind fun j => ((f4 b).bind fun k => ((mE 168 a ([(⟨j, k, (⟨#[43]⟩ : ByteArray)⟩ : jO)])).bind fun g => (qO f2 a0 f4 d g)))) else (qO f2 a0 f4 d a))))
def tN (f2 : ke → Option jv) (h : List ke) (f4 : ke → Option ByteArray) (f3 : (ke × ke) → Option Bool) (a0 : List ke) : List ke → (List jO) → Option (List jO)
 | [], a => ((qO f2 a0 f4 h a).bind fun b => some b)
 | g :: d, a => none
def yF (a0 a : List ke) (f2 : ke → Option jv) (f3 : (ke × ke) → Option Bool) (f4 : ke → Option ByteArray) : Option (List jO) :=
 tN f2 a f4 f3 a0 a0 ([])
def xN (a0 : ke) : Option jv :=
 some a0.Signed.jv
def xP (a0 a : ke) : Option Bool := none
def Gi (a0 : ju) : Option ByteArray :=
 ((pS a0.jw (⟨#[46]⟩ : ByteArray)).bind fun a => ((pS a a0.Word).bind fun b => some b))
def GF (a0 : jv) : Option ByteArray :=
 (if (a0.Kind == 1) then some a0.kE else none)
def Gz (a0 : jv) : Option ByteArray :=
 ((si a0).bind fun h => (if (!h) then some zS else ((Gi a0.Head).bind fun a => ((pS a (⟨#[32, 60, 45, 32]⟩ : ByteArray)).bind fun d => ((GF a0).bind fun b => ((pS d b).bind fun g => some g))))))
def xI (a0 : ke) : Option ByteArray :=
 ((Gz a0.Signed.jv).bind fun a => some a)
def tK (f2 : mj → Option ju) (a0 : List mj) (f4 : mj → Option ByteArray) : List mj → (List jQ) → Option (List jQ)
 | [], a => some a
 | d :: b, a => none
def tQ (f2 : mj → Option ju) (h : List mj) (f4 : mj → Option ByteArray) (f3 : (mj × mj) → Option Bool) (a0 : List mj) : List mj → (List jQ) → Option (List jQ)
 | [], a => ((tK f2 a0 f4 h a).bind fun b => some b)
 | g :: d, a => none
def yD (a0 a : List mj) (f2 : mj → Option ju) (f3 : (mj × mj) → Option Bool) (f4 : mj → Option ByteArray) : Option (List jQ) :=
 tQ f2 a f4 f3 a0 a0 ([])
def xM (a0 : mj) : Option ju :=
 some a0.ju
def xG (a0 a : mj) : Option Bool := none
def xO (a0 : mj) : Option ByteArray := none
def oK (a2 g : Int) (f3 : (jO × jO) → Option Int) : Nat → (List jO) → Int → Option (List jO)
 | 0, _, _ => none
 | d + 1, a, b => (if (decide (b < a2)) then none else some a)
def sG (a0 : List jO) (a a2 : Int) (f3 : (jO × jO) → Option Int) : Option (List jO) :=
 oK a2 a f3 ki a0 (wi0 .i64 (a + 1))
def qC (g : Int) (f2 : (jO × jO) → Option Int) : Nat → (List jO) → Int → Option (List jO)
 | 0, _, _ => none
 | d + 1, a, b => (if (decide (b < g)) then none else some a)
def qH (d : Int) (f2 : (jO × jO) → Option Int) : Nat → (List jO) → Int → Int → Option (List jO)
 | 0, _, _, _ => none
 | n120 + 1, g, h, i => (if (decide (i ≤ d)) then none else ((sG g h d f2).bind fun b => ((qC d f2 ki b 20).bind fun a => some a)))
def uZ (a0 : List jO) (a : Int) (f2 : (jO × jO) → Option Int) : Option (List jO) :=
 qH a f2 ki a0 0 20
def pf (a0 : List jO) (f1 : (jO × jO) → Option Int) : Option (List jO) :=
 ((uZ a0 (a0.length : Int) f1).bind fun a => some a)
def uS (a0 b : jO) (a : (jv × jv) → Option Int) : Option Int :=
 ((a (a0.key, b.key)).bind fun d => some d)
def uL (l : List jO) : List jO → ByteArray → Option (ByteArray × (List jO))
 | [], a => ((Pn a).bind fun h => some (h, l))
 | b :: d, a => ((pS b.sign (⟨#[32]⟩ : ByteArray)).bind fun i => ((pS i b.text).bind fun j => ((pS j (⟨#[10]⟩ : ByteArray)).bind fun k => ((IZ a k).bind fun g => (uL l d g)))))
def zp (a0 : List jO) (f1 : (jv × jv) → Option Int) : Option (ByteArray × (List jO)) :=
 ((pf a0 (fun (x : (jO × jO)) => uS x.1 x.2 f1)).bind fun a => uL a a zS)
def oJ (a2 g : Int) (f3 : (jQ × jQ) → Option Int) : Nat → (List jQ) → Int → Option (List jQ)
 | 0, _, _ => none
 | d + 1, a, b => (if (decide (b < a2)) then none else some a)
def su (a0 : List jQ) (a a2 : Int) (f3 : (jQ × jQ) → Option Int) : Option (List jQ) :=
 oJ a2 a f3 ki a0 (wi0 .i64 (a + 1))
def qD (g : Int) (f2 : (jQ × jQ) → Option Int) : Nat → (List jQ) → Int → Option (List jQ)
 | 0, _, _ => none
 | d + 1, a, b => (if (decide (b < g)) then none else some a)
def qG (d : Int) (f2 : (jQ × jQ) → Option Int) : Nat → (List jQ) → Int → Int → Option (List jQ)
 | 0, _, _, _ => none
 | n120 + 1, g, h, i => (if (decide (i ≤ d)) then none else ((su g h d f2).bind fun b => ((qD d f2 ki b 20).bind fun a => some a)))
def ve (a0 : List jQ) (a : Int) (f2 : (jQ × jQ) → Option Int) : Option (List jQ) :=
 qG a f2 ki a0 0 20
def pg (a0 : List jQ) (f1 : (jQ × jQ) → Option Int) : Option (List jQ) :=
 ((ve a0 (a0.length : Int) f1).bind fun a => some a)
def uO (a0 b : jQ) (a : (ju × ju) → Option Int) : Option Int :=
 ((a (a0.key, b.key)).bind fun d => some d)
def rR (h : List jQ) : List jQ → ByteArray → Option (ByteArray × (List jQ))
 | [], a => ((Pn a).bind fun b => some (b, h))
 | g :: d, a => none
def zu (a0 : List jQ) (f1 : (ju × ju) → Option Int) : Option (ByteArray × (List jQ)) :=
 ((pg a0 (fun (x : (jQ × jQ)) => uO x.1 x.2 f1)).bind fun a => rR a a zS)
def xm (a0 i : kD) : Option ByteArray :=
 ((yF a0.jJ i.jJ (fun (x : ke) => xN x) (fun (x : (ke × ke)) => xP x.1 x.2) (fun (x : ke) => xI x)).bind fun a => ((yD a0.jW i.jW (fun (x : mj) => xM x) (fun (x : (mj × mj)) => xG x.1 x.2) (fun (x : mj) => xO x)).bind fun b => ((zp a (fun (x : (jv × jv)) => qv x.1 x.2)).bind fun d => ((zu b (fun (x : (ju × ju)) => pn x.1 x.2)).bind fun g => ((pS d.1 g.1).bind fun h => some h)))))
def Az (a0 : ByteArray) (j a2 : kD) : Option ByteArray :=
 ((xm j a2).bind fun a => ((if (kV a zS) then some (kV j.Name a2.Name) else some false).bind fun i => (if i then some zS else ((pS a0 (⟨#[32]⟩ : ByteArray)).bind fun b => ((pS b a2.Name).bind fun d => ((pS d (⟨#[10]⟩ : ByteArray)).bind fun g => ((pS g a).bind fun h => some h)))))))
def yr (a0 : mQ) : Option (List lK) :=
 ((AT a0.rZ).bind fun a => ((AT a0.my.uy).bind fun b => ((pS b (⟨#[32]⟩ : ByteArray)).bind fun j => ((AT a0.my.uF).bind fun d => ((pS j d).bind fun k => ((AT a0.nB).bind fun g => ((AT a0.pG).bind fun h => ((AT a0.oh).bind fun i => some [(⟨(⟨#[112, 108, 97, 110]⟩ : ByteArray), a⟩ : lK), (⟨(⟨#[114, 111, 111, 109, 115]⟩ : ByteArray), k⟩ : lK), (⟨(⟨#[116, 105, 109, 101, 111, 117, 116]⟩ : ByteArray), g⟩ : lK), (⟨(⟨#[116, 114, 105, 101, 115]⟩ : ByteArray), h⟩ : lK), (⟨(⟨#[98, 117, 100, 103, 101, 116]⟩ : ByteArray), i⟩ : lK)]))))))))
def ns (d : List Key) (f2 : (Key × Key) → Option Bool) : List Key → Nat → Option Bool
 | [], _ => some true
 | b :: a, i95 => none
def pv (a0 a : List Key) (f2 : (Key × Key) → Option Bool) : Option Bool :=
 (if ((a0.length : Int) != (a.length : Int)) then some false else ns a f2 a0 0)
def yz (a0 a : Key) : Option Bool := none
def yu (g : List lK) (a0 k : mQ) : List lK → Nat → ByteArray → Option ByteArray
 | [], _, a => ((((pv a0.Keys k.Keys (fun (x : (Key × Key)) => yz x.1 x.2)).bind fun d => (if (!d) then none else some a)) : Option ByteArray).bind fun j => some j)
 | h :: b, i201, a => ((lG g (i201 : Int)).bind fun i => (if (!(BN h i)) then none else (yu g a0 k b (i201 + 1) a)))
def AH (a0 a : mQ) : Option ByteArray :=
 ((Az (⟨#[111, 119, 110, 101, 114]⟩ : ByteArray) a0.jw a.jw).bind fun d => ((Az (⟨#[99, 108, 105, 101, 110, 116]⟩ : ByteArray) a0.Client a.Client).bind fun g => ((pS d g).bind fun j => ((((nE ki a0.Formula a.Formula).bind fun b => (if (!b) then none else some j)) : Option ByteArray).bind fun k => ((yr a0).bind fun h => ((yr a).bind fun i => yu h a0 a i 0 k))))))
def qc (a0 : mQ) : Option ((List jv) × (List jv) × Bool) :=
 ((wj a0.jw a0.Client).bind fun a => ((wI a0.jw a0.Client a0.Formula).bind fun b => some (a.1, a.2.1, b)))
def tq (a0 j : mQ) : Option Bool :=
 ((qc a0).bind fun a => ((qc j).bind fun b => ((if (a.2.2 != b.2.2) then some true else ((ru a.1 b.1).bind fun g => some (!g))).bind fun h => ((if h then some true else ((ru a.2.1 b.2.1).bind fun d => some (!d))).bind fun i => some i))))
def uz (a0 : jv) (a : List jv) : Option Bool :=
 ((th a a0).bind fun b => some (!b))
def uu (a0 a : List jv) : Option Bool :=
 ((qa a0 (fun (x : jv) => uz x a)).bind fun b => some (!b))
def oY (a0 k : mQ) : Option Bool :=
 ((qc a0).bind fun a => ((qc k).bind fun b => ((uu b.1 a.1).bind fun g => ((if g then ((uu b.2.1 a.2.1).bind fun d => some d) else some false).bind fun h => ((if h then ((if a.2.2 then some true else some (!b.2.2)).bind fun j => some j) else some false).bind fun i => some i)))))
def vP  : Option Bool :=
 ((FB 1 0 8).bind fun a => ((AH (⟨(⟨(⟨#[115, 104, 111, 112]⟩ : ByteArray), [], []⟩ : kD), (⟨(⟨#[97, 110, 110]⟩ : ByteArray), [], []⟩ : kD), (⟨1, 0, (⟨(⟨#[103, 111, 118]⟩ : ByteArray), (⟨#[105, 100]⟩ : ByteArray)⟩ : ju), []⟩ : Formula), 0, (⟨0, 0⟩ : sr), 0, 0, 0, []⟩ : mQ) (⟨(⟨(⟨#[115, 104, 111, 112]⟩ : ByteArray), [], []⟩ : kD), (⟨(⟨#[97, 110, 110]⟩ : ByteArray), [(⟨(⟨(⟨1, (⟨(⟨#[103, 111, 118]⟩ : ByteArray), (⟨#[105, 100]⟩ : ByteArray)⟩ : ju), (⟨#[97, 110, 110]⟩ : ByteArray), (⟨zS, zS⟩ : ju), (⟨zS, zS⟩ : ju), zS⟩ : jv), a⟩ : Signed), (⟨2, 0, (⟨zS, zS⟩ : ju), []⟩ : Formula)⟩ : ke)], []⟩ : kD), (⟨1, 0, (⟨(⟨#[103, 111, 118]⟩ : ByteArray), (⟨#[105, 100]⟩ : ByteArray)⟩ : ju), []⟩ : Formula), 0, (⟨0, 0⟩ : sr), 0, 0, 0, []⟩ : mQ)).bind fun k => ((if (kV k (⟨#[99, 108, 105, 101, 110, 116, 32, 97, 110, 110, 10, 43, 32, 103, 111, 118, 46, 105, 100, 32, 60, 45, 32, 97, 110, 110, 10]⟩ : ByteArray)) then ((xm (⟨(⟨#[97, 110, 110]⟩ : ByteArray), [], []⟩ : kD) (⟨(⟨#[97, 110, 110]⟩ : ByteArray), [], []⟩ : kD)).bind fun i => some (kV i zS)) else some false).bind fun l => ((if l then ((tq (⟨(⟨(⟨#[115, 104, 111, 112]⟩ : ByteArray), [], []⟩ : kD), (⟨(⟨#[97, 110, 110]⟩ : ByteArray), [], []⟩ : kD), (⟨1, 0, (⟨(⟨#[103, 111, 118]⟩ : ByteArray), (⟨#[105, 100]⟩ : ByteArray)⟩ : ju), []⟩ : Formula), 0, (⟨0, 0⟩ : sr), 0, 0, 0, []⟩ : mQ) (⟨(⟨(⟨#[115, 104, 111, 112]⟩ : ByteArray), [], []⟩ : kD), (⟨(⟨#[97, 110, 110]⟩ : ByteArray), [(⟨(⟨(⟨1, (⟨(⟨#[103, 111, 118]⟩ : ByteArray), (⟨#[105, 100]⟩ : ByteArray)⟩ : ju), (⟨#[97, 110, 110]⟩ : ByteArray), (⟨zS, zS⟩ : ju), (⟨zS, zS⟩ : ju), zS⟩ : jv), a⟩ : Signed), (⟨2, 0, (⟨zS, zS⟩ : ju), []⟩ : Formula)⟩ : ke)], []⟩ : kD), (⟨1, 0, (⟨(⟨#[103, 111, 118]⟩ : ByteArray), (⟨#[105, 100]⟩ : ByteArray)⟩ : ju), []⟩ : Formula), 0, (⟨0, 0⟩ : sr), 0, 0, 0, []⟩ : mQ)).bind fun h => some h) else some false).bind fun m => ((if m then ((tq (⟨(⟨(⟨#[115, 104, 111, 112]⟩ : ByteArray), [], []⟩ : kD), (⟨(⟨#[97, 110, 110]⟩ : ByteArray), [], []⟩ : kD), (⟨1, 0, (⟨(⟨#[103, 111, 118]⟩ : ByteArray), (⟨#[105, 100]⟩ : ByteArray)⟩ : ju), []⟩ : Formula), 0, (⟨0, 0⟩ : sr), 0, 0, 0, []⟩ : mQ) (⟨(⟨(⟨#[115, 104, 111, 112]⟩ : ByteArray), [], []⟩ : kD), (⟨(⟨#[97, 110, 110]⟩ : ByteArray), [], []⟩ : kD), (⟨1, 0, (⟨(⟨#[103, 111, 118]⟩ : ByteArray), (⟨#[105, 100]⟩ : ByteArray)⟩ : ju), []⟩ : Formula), 0, (⟨0, 0⟩ : sr), 0, 0, 0, []⟩ : mQ)).bind fun g => some (!g)) else some false).bind fun n => ((if n then ((oY (⟨(⟨(⟨#[115, 104, 111, 112]⟩ : ByteArray), [], []⟩ : kD), (⟨(⟨#[97, 110, 110]⟩ : ByteArray), [(⟨(⟨(⟨1, (⟨(⟨#[103, 111, 118]⟩ : ByteArray), (⟨#[105, 100]⟩ : ByteArray)⟩ : ju), (⟨#[97, 110, 110]⟩ : ByteArray), (⟨zS, zS⟩ : ju), (⟨zS, zS⟩ : ju), zS⟩ : jv), a⟩ : Signed), (⟨2, 0, (⟨zS, zS⟩ : ju), []⟩ : Formula)⟩ : ke)], []⟩ : kD), (⟨1, 0, (⟨(⟨#[103, 111, 118]⟩ : ByteArray), (⟨#[105, 100]⟩ : ByteArray)⟩ : ju), []⟩ : Formula), 0, (⟨0, 0⟩ : sr), 0, 0, 0, []⟩ : mQ) (⟨(⟨(⟨#[115, 104, 111, 112]⟩ : ByteArray), [], []⟩ : kD), (⟨(⟨#[97, 110, 110]⟩ : ByteArray), [], []⟩ : kD), (⟨1, 0, (⟨(⟨#[103, 111, 118]⟩ : ByteArray), (⟨#[105, 100]⟩ : ByteArray)⟩ : ju), []⟩ : Formula), 0, (⟨0, 0⟩ : sr), 0, 0, 0, []⟩ : mQ)).bind fun d => some d) else some false).bind fun p => ((if p then ((oY (⟨(⟨(⟨#[115, 104, 111, 112]⟩ : ByteArray), [], []⟩ : kD), (⟨(⟨#[97, 110, 110]⟩ : ByteArray), [], []⟩ : kD), (⟨1, 0, (⟨(⟨#[103, 111, 118]⟩ : ByteArray), (⟨#[105, 100]⟩ : ByteArray)⟩ : ju), []⟩ : Formula), 0, (⟨0, 0⟩ : sr), 0, 0, 0, []⟩ : mQ) (⟨(⟨(⟨#[115, 104, 111, 112]⟩ : ByteArray), [], []⟩ : kD), (⟨(⟨#[97, 110, 110]⟩ : ByteArray), [(⟨(⟨(⟨1, (⟨(⟨#[103, 111, 118]⟩ : ByteArray), (⟨#[105, 100]⟩ : ByteArray)⟩ : ju), (⟨#[97, 110, 110]⟩ : ByteArray), (⟨zS, zS⟩ : ju), (⟨zS, zS⟩ : ju), zS⟩ : jv), a⟩ : Signed), (⟨2, 0, (⟨zS, zS⟩ : ju), []⟩ : Formula)⟩ : ke)], []⟩ : kD), (⟨1, 0, (⟨(⟨#[103, 111, 118]⟩ : ByteArray), (⟨#[105, 100]⟩ : ByteArray)⟩ : ju), []⟩ : Formula), 0, (⟨0, 0⟩ : sr), 0, 0, 0, []⟩ : mQ)).bind fun b => some (!b)) else some false).bind fun j => some j)))))))
def sV (g : List jv) : List jv → Option Bool
 | [] => some true
 | d :: a => ((xY g d).bind fun b => (if (!b) then some false else (sV g a)))
def vm (a0 a : List jv) : Option Bool :=
 sV a a0
def sT (a0 a : mQ) : Option Bool :=
 ((xf a0.jw a0.Client).bind fun g => ((xf a.jw a.Client).bind fun h => ((tu a.jw a.Client a.Formula).bind fun i => ((if i then ((tu a0.jw a0.Client a0.Formula).bind fun d => some (!d)) else some false).bind fun k => ((vm h.1 g.1).bind fun j => ((if j then ((vm h.2.1 g.2.1).bind fun b => some b) else some false).bind fun l => ((if l then some (!k) else some false).bind fun m => some m)))))))
def tV (a0 a : mQ) : Option Bool :=
 (vP.bind fun k => (if (!k) then some false else ((wi a0).bind fun l => ((wi a).bind fun m => (if (decide ((wi0 .i64 (l + m)) > 8000)) then some true else ((sT a0 a).bind fun g => ((sT a a0).bind fun h => ((oY a0 a).bind fun n => ((if (n == g) then ((oY a a0).bind fun d => some (d == h)) else some false).bind fun p => ((if p then ((tq a0 a).bind fun b => ((if g then some h else some false).bind fun j => some (b == (!j)))) else some false).bind fun i => some i))))))))))
end
end Go.Proofs.YtjjjihkifgdhgaaGreatDoor
