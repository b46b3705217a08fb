/- a part of a proof of OutcomeGets -/
import Derived.Test.YtbnbdigcbldfhaaGreatRtTe
import Derived.Laws.IdiomStrings
import Derived.Laws.MakeOwn
import Derived.Recover
import Derived.LaidEqlPtr
import Derived.Shelf.SlSortCmp.NoneTotal
import Derived.Shelf.SortM.Plain
import Derived.Shelf.SortM.SortNone
import Derived.Shelf.SlIter.Sorted
import Derived.Shelf.SlIter.Nil
import Derived.Test.YtbnbdigcbldfhaaGreatProg
import Derived.KernelRfl
set_option linter.all false
namespace Go.Proofs.YtbnbdigcbldfhaaGreat
open Go.IntKind renaming wrap → wi0
open Go.RowKit
def nr (dd : Bool) (P : Program) (f : FuncId) (args : List Value) (w : World) (μ0 : jF) (L0 : List (Nat × Obj)) (K : Value → List (Nat × Obj) → jF → Prop) : Prop :=
 Calls P f args.toArray w fun e a => ∃ v L1 μ1, e = .returned v ∧ qF dd L0 L1 w a ∧ jC μ0 μ1 ∧ Lo (keys L0) w μ0 μ1 ∧ jC μ1 (qH a L1) ∧ K v L1 μ1
theorem nr.kI {dd : Bool} {P : Program} {f : FuncId} {args : List Value} {w : World} {μ0 : jF} {L0 : List (Nat × Obj)} {K : Value → List (Nat × Obj) → jF → Prop} (h : nr true P f args w μ0 L0 K) : nr dd P f args w μ0 L0 K :=
 bw h fun _ _ ⟨v, L1, μ1, h1, a, c⟩ => ⟨v, L1, μ1, h1, a.kI, c⟩
section
variable {dd : Bool} {F : Nat → Prop} {w W W' : World} {μ μ1 : jF} {L L0 L1 L2 : List (Nat × Obj)}
theorem ST.Qh (h : ST dd F w W μ (L0 ++ L)) (g : qF dd L0 L1 W W') (i : Lo (keys L0) W μ μ1) (d : jC μ1 (qH W' L1)) : ST dd F w W' μ1 (L1 ++ L) := by
 have h1 := h.back g
 refine ⟨h1.os, h1.tape, h1.output, h1.drawn, h1.size, h1.ll, fun b o hm => ?_, fun b o a => ?_, h1.nd⟩
 ·have := d b o hm
  unfold qH at this
  split at this
  ·cases this
  ·exact this
 ·obtain ⟨j, m, k⟩ := h1.box b o a
  refine ⟨j, ?_, k⟩
  rcases aI.1 a with a | a
  ·cases hm : μ1 b with
   | none => rfl
   | some x =>
    have := d b x hm
    unfold qH at this
    rw [aj ⟨o, a⟩] at this
    cases this
  ·have c := h.box b o (bU _ a)
   rw [i b (ng c.1) (Fh h.nd a)]
   exact c.2.1
variable {P : Program} {E : Nat → Value} {d : Option Nat} {ty : TypeId} {pos : String} {af : Array Edge} {g : Option (Nat × Bool)}
theorem KS {K : Value → World → Prop} {K' : Value → List (Nat × Obj) → jF → Prop} {f : FuncId} {fv : Operand} {ax : Array Operand} {ats : Array TypeId} {caps : Array Value} {args : List Value} (L0 L2 : List (Nat × Obj)) (a : ST dd F w W μ L) (c : L.Perm (L0 ++ L2)) (y : ji E fv = .func (.func f) #[] caps) (he : ∀ args w, (callFunc f args).run P w = .ok (.enter f args) w) (t : ax.map (ji E) ++ (#[] : Array Value) = args.toArray) (x : Cs L0 W → (L0.map (·.1)).Nodup → jC μ (qH W L0) → (∀ b o, (b, o) ∈ L2 → qH W L0 b = some o) → nr dd P f (args ++ caps.toList) W μ L0 K') (h : ∀ W' v μ' L1, ST dd F w W' μ' (L1 ++ L2) → jC μ μ' → Lo F w μ μ' → K' v L1 μ' → K v W') : mg P E ⟨d, .call ⟨.value fv, ax, ats⟩, ty, pos, af, g⟩ W K := by
 have i : ax.map (ji E) = args.toArray := by simpa using t
 refine Ff (args := (args ++ caps.toList).toArray) y he (by rw [i]; simp) (bw (x (a.held c) (a.Py c) (a.PZ c) (a.HT c)) (fun _ W' ⟨v, L1, μ1, h1, k, m, j, n, p⟩ => ⟨v, h1, h W' v μ1 L1 ((a.perm c).Qh k j n) m (fun b u s => j b (cE u a.size) (fun ⟨o, z⟩ => by
  rcases ((a.perm c).box b o (aW _ z)).2.2 with q | q
  ·omega
  ·exact s q)) p⟩))
end
section
variable {P : Program} {E : Nat → Value} {W : World} {d : Option Nat} {ty : TypeId} {pos : String} {af : Array Edge} {g : Option (Nat × Bool)}
 {dd : Bool} {F : Nat → Prop} {w : World} {μ : jF} {L : List (Nat × Obj)}
def E4 {α : Type} (a : Nat) (z : α) (n : Int) : Option (List α) := if 0 ≤ n ∧ (a : Int) * n ≤ 140737488355328 ∧ n ≤ (maxLen : Int) then some (List.replicate n.toNat z) else none
theorem HS {α : Type} {enc : α → List Value} {k : Nat} (hk : ∀ x, (enc x).length = k) (a : 0 < k) (z : α) (n : Nat) : (madeCells (enc z).toArray (n * k)).toList = ((List.replicate n z).map enc).flatten := by
 apply List.ext_getElem
 ·rw [nY hk, bL, size_madeCells]; simp
 ·intro i h1 h
  rw [bL, size_madeCells] at h1
  have j : i / k < n := by rw [fM a]; exact h1
  have d : i % k < (enc z).length := by rw [hk]; exact Nat.mod_lt _ a
  have c := wM hk (List.replicate n z) (i / k) z (by rw [List.getElem?_replicate, aj j]) (i % k) _ (bq d)
  rw [show i / k * k + i % k = i by rw [Nat.mul_comm]; exact Nat.div_add_mod i k] at c
  rw [bq h] at c
  have g := Option.some.inj c
  rw [g]
  simp only [madeCells, Array.getElem_toList, Array.getElem_map, Array.getElem_range, bH, hk]
  rw [fx _ _ (by simpa using d)]
  simp
theorem Lb {K : Value → World → Prop} {α : Type} {e t : TypeId} {enc : α → List Value} {k a : Nat} {c : Value} {n : Int} {m : IntKind} {z : α} {r : List α} {x y : Operand} {i : TypeInfo} (o : ST dd F w W μ L) (hk : ∀ x, (enc x).length = k) (s : 0 < k) (M : P.underlying t = some (.slice e)) (hi : P.info? e = some i) (R : i.zero = some c) (u : i.size = k) (q : i.bytes = a) (I : c.cells = (enc z).toArray) (O : ji E x = .int m n) (Q : ji E y = .int m n) (j : E4 a z n = some r) (h : ∀ W' v R', ST dd F w W' μ (R' ++ L) → jy e enc k v r R' → K v W') : mg P E ⟨d, .makeSlice t x y, ty, pos, af, g⟩ W K := by
 unfold E4 at j
 split at j
 case isFalse => cases j
 rename_i p
 cases j
 obtain ⟨A, h1, D⟩ := p
 subst u; subst q
 have G : n.toNat ≤ maxLen := by omega
 have J := run_make (P := P) W t e i c M hi R m m n n A (gX _) (by omega) (by simp only [maxLen] at D; omega)
 refine .inl ⟨.slice (some ⟨W.heap.size, 0, none⟩) n.toNat n.toNat, W.alloc (.cells (madeCells c.cells (n.toNat * i.size)) e), ?_, h _ _ [(W.heap.size, .cells (madeCells c.cells (n.toNat * i.size)) e)] (o.alloc _) ?_⟩
 ·show (do pure (.value (← Instr.makeSlice t (ji E x) (ji E y))) : Sem Next).run P W = _
  rw [O, Q]
  simp only [aZ, J, aN, bQ]
 ·exact jy.lit (by rw [fN]) G (by rw [I]; exact HS hk s z _) (by rw [size_madeCells])
end
section
variable {P : Program} {E : Nat → Value} {W : World} {d : Option Nat} {ty : TypeId} {pos : String} {af : Array Edge} {g : Option (Nat × Bool)}
theorem SO {op : BinOp} {tx tv : TypeId} {x y : Operand} {k : IntKind} {a b : Int} {v : Value} (i : ji E x = .int k a) (j : ji E y = .int k b) (h : (match op with | .and => some (BitVec.ofInt k.bits a &&& BitVec.ofInt k.bits b) | .or => some (BitVec.ofInt k.bits a ||| BitVec.ofInt k.bits b) | .xor => some (BitVec.ofInt k.bits a ^^^ BitVec.ofInt k.bits b) | _ => none).map (fun (c : BitVec k.bits) => Value.int k (k.wrap c.toNat)) = some v) :
  kA P E ⟨d, .binOp op tx x y tv, ty, pos, af, g⟩ W v W := by
 show (do let r ← (do eqGuard op tx x y (ji E x) (ji E y); binOp op tx (ji E x) (ji E y)); pure (.value r) : Sem Next).run P W = _
 rw [i, j]
 cases op <;> simp at h <;> subst h <;> simp [eqGuard, binOp, Op.intBits]
theorem MN {tx tv : TypeId} {x y : Operand} {k k' : IntKind} {a b : Int} (c : ji E x = .int k a) (h : ji E y = .int k' b) (i : 0 ≤ b) :
  kA P E ⟨d, .binOp .shl tx x y tv, ty, pos, af, g⟩ W (.int k (k.wrap (a * 2 ^ min b.toNat k.bits))) W := by
 show (do let r ← (do eqGuard .shl tx x y (ji E x) (ji E y); binOp .shl tx (ji E x) (ji E y)); pure (.value r) : Sem Next).run P W = _
 rw [c, h]
 simp [eqGuard, binOp, Op.shift, show ¬ b < 0 by omega]
end
theorem rO.BO {κ γ : Type} {kenc : κ → Value} {Q : Value → γ → List (Nat × Obj) → Prop} {μ : jF} {v : Value} {l : List (κ × γ)} (h : rO kenc Q μ v l) : v.oneCell' = true := by
 obtain ⟨a, R, h, _⟩ := h
 obtain ⟨m, rfl⟩ := h.form
 rfl
theorem uN.BO {κ β : Type} {kenc : κ → Value} {vf : β → Value} {μ : jF} {v : Value} {l : List (κ × β)} (h : uN kenc vf μ v l) : v.oneCell' = true := by
 obtain ⟨m, rfl⟩ := h.form
 rfl
section
variable {dd : Bool}
def KU {α : Type} (R : qa α) : jF → List Value → α → Prop := fun μ vs x => ∃ ys, vs = [.agg ys.toArray] ∧ R μ ys x
theorem KU.mk {α : Type} {R : qa α} {k : Nat} {μ μ' : jF} {ys : List Value} {x : α} (a : Deep R k) (h : R μ ys x) (c : jC μ μ') : KU R μ' [.agg ys.toArray] x := ⟨ys, rfl, a.mono _ _ _ _ c h⟩
def Ii {α β : Type} (P : Program) (fv : Value) (μ : jF) (a : jF → List Value → α → Prop) (c : β → Value) (pm : α → Option β) : Prop :=
 ∃ f first caps, fv = .func (.func f) first caps ∧ (∀ args w, (callFunc f args).run P w = .ok (.enter f args) w) ∧ ∀ W x vs r, jC μ (hp W) → a (hp W) vs x → pm x = some r → jJ false P f (first.toList ++ (vs ++ caps.toList)) W (c r)
theorem Ii.form {α β : Type} {P : Program} {fv : Value} {μ : jF} {c : jF → List Value → α → Prop} {d : β → Value} {pm : α → Option β} (h : Ii P fv μ c d pm) : ∃ f a b, fv = .func f a b := let ⟨f, a, b, h, _⟩ := h; ⟨_, a, b, h⟩
end
section
variable {P : Program} {W : World} {E : Nat → Value} {d : Option Nat} {ty : TypeId} {pos : String} {af : Array Edge} {g : Option (Nat × Bool)} {F : Nat → Prop} {w : World} {μ μ0 : jF} {L : List (Nat × Obj)}
theorem Ii.mono {α β : Type} {fv : Value} {a : jF → List Value → α → Prop} {c : β → Value} {pm : α → Option β} (h : Ii P fv μ a c pm) (i : jC μ μ0) : Ii P fv μ0 a c pm := by
 obtain ⟨f, first, caps, h1, d, g⟩ := h
 exact ⟨f, first, caps, h1, d, fun W x vs r h => g W x vs r (i.trans h)⟩
theorem Tm {α β : Type} {K : Value → World → Prop} {fv : Value} {j : jF → List Value → α → Prop} {k : β → Value} {pm : α → Option β} {c : Operand} {ax : Array Operand} {ats : Array TypeId} (x : α) {vs : List Value} {r : β} (a : ST false F w W μ L) (t : Ii P fv μ0 j k pm) (v : jC μ0 μ) (q : j (hp W) vs x) (u : ji E c = fv) (s : ax.map (ji E) ++ (#[] : Array Value) = vs.toArray) (hm : pm x = some r) (h : ∀ W', ST false F w W' μ L → K (k r) W') : mg P E ⟨d, .call ⟨.value c, ax, ats⟩, ty, pos, af, g⟩ W K := by
 obtain ⟨f, first, caps, rfl, m, n⟩ := t
 have i : ax.map (ji E) = vs.toArray := by simpa using s
 refine .inr (.inr ⟨f, (first.toList ++ (vs ++ caps.toList)).toArray, ?_, bw (n W x vs r (v.trans a.ju) q hm) (fun _ _ ⟨o, p⟩ => ⟨_, o, h _ (a.Fi p)⟩)⟩)
 show (do let d ← resolve (ji E) ⟨.value c, ax, ats⟩ ty; invoke d.target d.args : Sem Next).run P W = _
 simp only [resolve, u, Deferred.ofValue, aZ, bQ, aN, invoke, i, m]
 congr 2
 simp
end
section
variable {dd : Bool}
variable {β : Type} {Rl : qa β} {k : Nat} {μ : jF} {v : Value} {l : List β} {e : TypeId} {B : List (Nat × Obj)}
variable {F : Nat → Prop} {w W : World} {L : List (Nat × Obj)}
variable {P : Program} {E : Nat → Value} {d : Option Nat} {ty : TypeId} {pos : String} {af : Array Edge} {g : Option (Nat × Bool)}
theorem JK {α : Type} {enc : α → List Value} (hk : ∀ x, (enc x).length = k) (c : 0 < k) (hi : ∀ x y, enc x = enc y → x = y) : ∀ {l m : List α}, (l.map enc).flatten = (m.map enc).flatten → l = m
 | [], [], _ => rfl
 | [], b :: m, h => by
  have := ay List.length h
  simp only [dN, List.flatten_nil, bG, aQ, cy, ah, hk] at this
  omega
 | a :: l, [], h => by
  have := ay List.length h
  simp only [dN, List.flatten_nil, bG, aQ, cy, ah, hk] at this
  omega
 | a :: l, b :: m, h => by
  simp only [aQ, cy] at h
  obtain ⟨h1, d⟩ := List.append_inj h (by rw [hk, hk])
  rw [hi _ _ h1, JK hk c hi d]
theorem Um (x y : rD k) (h : uy x = uy y) : x = y := Subtype.ext h
theorem jy.pre {v1 : Value} {cl a : List (rD k)} (g : 0 < k) (h : jy e uy k v cl B) (h1 : jy e uy k v1 a B) (d : a.length ≤ cl.length) : a = cl.take a.length := by
 rcases h with ⟨rfl, rfl, rfl⟩ | ⟨s, cap, c, rfl, rfl, t, u, w, p⟩
 ·simp at d; simp [d]
 ·rcases h1 with ⟨_, _, h⟩ | ⟨g1, i, j, rfl, m, q, a2, a3, a4⟩
  ·cases h
  ·cases m
   refine JK Ej g Um ?_
   rw [← a4]
   have hle : a.length * k ≤ cl.length * k := bd _ d
   have : c.toList.take (a.length * k) = (c.toList.take (cl.length * k)).take (a.length * k) := by rw [eo, bO hle]
   rw [this, p]
   have n : (cl.map uy).flatten = ((cl.take a.length).map uy).flatten ++ ((cl.drop a.length).map uy).flatten := by rw [← eG, ← bi, dV]
   have o : ((cl.take a.length).map uy).flatten.length = a.length * k := by rw [nY Ej, bx, bO d]
   rw [n, ← o, fw]
theorem pf.replicate {α β : Type} {Q : α → β → Prop} {a : α} {b : β} (h : Q a b) : ∀ n, pf Q (List.replicate n a) (List.replicate n b)
 | 0 => .nil
 | n + 1 => .cons h (pf.replicate h n)
theorem ol.O9 {c d : List β} {i : Value} {R2 : List (Nat × Obj)} (a : 0 < k) (j : ol e Rl k μ v l B) (h1 : ol e Rl k μ i d B) (m : ol e Rl k μ v c R2) (n : d.length ≤ c.length) : ol e Rl k μ i (c.take d.length) R2 := by
 obtain ⟨cl, o, s⟩ := j
 obtain ⟨c1, p, g⟩ := h1
 obtain ⟨c2, q, h⟩ := m
 refine ⟨_, jy.O9 a Ej o p q (by rw [g.length, h.length]; exact n), ?_⟩
 rw [g.length]
 exact h.take _
end
section
variable {P : Program} {W : World} {E : Nat → Value} {d : Option Nat} {ty : TypeId} {pos : String} {af : Array Edge} {g : Option (Nat × Bool)}
theorem OY {tx tv : TypeId} {x y : Operand} {fv : Value} {s u : Array TypeId} {bb : Bool} (i : P.underlying tx = some (.func s u bb)) (h : ∃ f a b, fv = .func f a b) (j : ji E x = fv) (k : ji E y = .nilFunc) :
  kA P E ⟨d, .binOp .neq tx x y tv, ty, pos, af, g⟩ W (.bool true) W := by
 obtain ⟨f, a, b, rfl⟩ := h
 show (do let r ← (do eqGuard .neq tx x y (ji E x) (ji E y); binOp .neq tx (ji E x) (ji E y)); pure (.value r) : Sem Next).run P W = _
 rw [j, k]
 have c := xO 9999 i f a b W
 simp [eqGuard, binOp, Op.equal, show Op.maxDepth = 9999 + 1 from rfl, c]
end
theorem bS {α β : Type} {m : Option α} {f : α → Option β} {r : β} {G : Prop} (h : m.bind f = some r) (k : ∀ x, m = some x → f x = some r → G) : G :=
 let ⟨x, a, b⟩ := bind_some h
 k x a b
theorem sj {α : Type} {a b : α} (h : some a = some b) : a = b := Option.some.inj h
theorem bC {α : Type} {b : Bool} {x y r : α} {G : Prop} (h : (if b = true then x else y) = r) (a : b = true → x = r → G) (k2 : b = false → y = r → G) : G := by
 rcases NG b with e | e
 ·exact a e (R7 e h)
 ·exact k2 e (Sc e h)
theorem cB {a b : Bool} (h : a = b) : Value.bool a = Value.bool b := ay Value.bool h
theorem nb {a b : Nat} (h : Nat.ble a b = true := by exact rfl) : a ≤ b := Nat.le_of_ble_eq_true h
def TT : Nat → Nat → List Bool
 | 0, _ => []
 | n + 1, m => (m % 2 == 1) :: TT n (m / 2)
def bm (n m : Nat) : Array Bool := (TT n m).toArray
section
variable {P : Program} {n : Nat} {Q : mP} {E : Nat → Value} {W : World}
theorem CI {α : Type} {co : Operand} {b : Bool} {x y : Code} {A B r : α} (hm : (if b = true then A else B) = r) (a : ji E co = .bool b) (d : b = true → A = r → CW P n x Q E W) (c : b = false → B = r → CW P n y Q E W) : CW P n (.cond co x y) Q E W :=
 Nj a (fun e => d e (R7 e hm)) (fun e => c e (Sc e hm))
theorem CJ {c ρ : Type} {m : Option c} {k : c → Option ρ} {r : ρ} {x : Code} {K : (Nat → Value) → World → Prop} (hm : m.bind k = some r) (I : c → (Nat → Value) → World → Prop) (h1 : ∀ s, m = some s → CW P n x (pa (I s) Q) E W) (d : ∀ s E W, I s E W → k s = some r → K E W) : CW P n x (pa K Q) E W :=
 let ⟨s, a, b⟩ := bind_some hm
 OJ (I s) (h1 s a) (fun E W h => d s E W h b)
theorem EX {d ρ c : Type} {m : Option (c ⊕ d)} {k : c ⊕ d → Option ρ} {r : ρ} {x : Code} {K : (Nat → Value) → World → Prop} (hm : m.bind k = some r) (I : d → (Nat → Value) → World → Prop) (h1 : ∀ s, m = some s → k s = some r → CW P n x (pa (fun E W => ∃ t, s = .inr t ∧ I t E W) Q) E W) (g : ∀ s E W, I s E W → k (.inr s) = some r → K E W) : CW P n x (pa K Q) E W :=
 let ⟨s, a, b⟩ := bind_some hm
 OJ (fun E W => ∃ t, s = .inr t ∧ I t E W) (h1 s a b) (fun E W ⟨t, e, h⟩ => g t E W h (by subst e; exact b))
theorem LJ {c ρ : Type} {m : Option c} {k : c → Option ρ} {r : ρ} {ops : Array Oper} {rest : List Oper} (hm : m.bind k = some r) (I : c → (Nat → Value) → World → Prop) (j : Nat) (d : ∀ s E W, I s E W → k s = some r → LW P n ops Q (rest.drop j) E W) (h1 : ∀ s, m = some s → (∀ E W, I s E W → LW P n ops Q (rest.drop j) E W) → LW P n ops Q rest E W) : LW P n ops Q rest E W :=
 let ⟨s, a, b⟩ := bind_some hm
 h1 s a (fun E W h => d s E W h b)
theorem PJ {c ρ : Type} {m : Option c} {k : c → Option ρ} {r : ρ} {ops : Array Oper} {S : Array Bool → World → Prop} {fuel : Nat} {listed : Array Bool} (hm : m.bind k = some r) (I : c → (Nat → Value) → World → Prop) (g : Array Bool) (d : Nat) (i : ∀ s E W, I s E W → k s = some r → PX P n ops Q S d g E W) (h1 : ∀ s, m = some s → (∀ E W, I s E W → PX P n ops Q S d g E W) → PX P n ops Q S fuel listed E W) : PX P n ops Q S fuel listed E W :=
 let ⟨s, a, b⟩ := bind_some hm
 h1 s a (fun E W h => i s E W h b)
theorem cF (n : Nat) {f : FuncId} {fn : Func} {c : Code} {args : List Value} {w : World} {R : Ending → World → Prop} (a : P.funcs[f]? = some fn) (d : fn.body = some c) (h : CW P n c (wI P fn R) (wk args) w) (i : fn.ntmps = n := by exact rfl) (g : args.length ≤ n := by exact nb) : Calls P f args.toArray w R := xq a d i g h
end
section
variable {dd : Bool} {P : Program} {fn : Func} {E : Nat → Value} {W w : World} {μ : jF} {L : List (Nat × Obj)}
theorem rP {t : Tmp} {v : Value} (a : ST dd jT w W μ L) (c : fn.results = #[.tmp t] := by exact rfl) (d : E t = v := by exact rfl) : wI P fn (fun e W' => e = .returned v ∧ Ex dd w W') .ret E W := jR c d ⟨rfl, a.ex⟩
end
theorem ST.Ug {dd : Bool} {F : Nat → Prop} {w W : World} {μ : jF} {x : Nat × Obj} {L : List (Nat × Obj)} (h : ST dd F w W μ (x :: L)) : ST dd F w W μ ([x] ++ L) := h
theorem ST.PM {dd : Bool} {F : Nat → Prop} {w W : World} {μ : jF} {L : List (Nat × Obj)} (h : ST dd F w W μ L) : ST dd F w W μ ([] ++ L) := h
theorem aL {E : Nat → Value} {ax : Array Operand} {l : List Value} (h : ax.toList.map (ji E) = l) : ax.map (ji E) ++ (#[] : Array Value) = l.toArray := by subst h; apply Array.ext'; simp
section
variable {dd : Bool}
variable {P : Program} {E : Nat → Value} {W : World} {d : Option Nat} {ty : TypeId} {pos : String} {af : Array Edge} {g : Option (Nat × Bool)}
 {F : Nat → Prop} {w : World} {μ : jF} {L : List (Nat × Obj)}
variable {f : FuncId} {fv : Operand} {ax : Array Operand} {ats : Array TypeId} {args : List Value} {v : Value} {K : Value → World → Prop}
theorem Eg (a : ST dd F w W μ L) (he : ∀ args w, (callFunc f args).run P w = .ok (.enter f args) w) (i : jJ dd P f args W v) (h : ∀ W', ST dd F w W' μ L → K v W') (j : ji E fv = .func (.func f) #[] #[] := by exact rfl) (c : ax.toList.map (ji E) = args := by exact rfl) : mg P E ⟨d, .call ⟨.value fv, ax, ats⟩, ty, pos, af, g⟩ W K := QX a j he (aL c) i h
theorem rC {α : Type} {e : TypeId} {enc : α → List Value} {k : Nat} {l : List α} {Y : List (Nat × Obj)} (a : ST dd F w W μ Y) (he : ∀ args w, (callFunc f args).run P w = .ok (.enter f args) w) (i : kw dd P f args W e enc k l) (h : ∀ W' v μ' R, ST dd F w W' μ' (R ++ Y) → jC μ μ' → Lo F w μ μ' → jy e enc k v l R → K v W') (j : ji E fv = .func (.func f) #[] #[] := by exact rfl) (c : ax.toList.map (ji E) = args := by exact rfl) : mg P E ⟨d, .call ⟨.value fv, ax, ats⟩, ty, pos, af, g⟩ W K := MO _ a j he (aL c) i h
theorem FO {K' : Value → List (Nat × Obj) → World → Prop} {L0 L2 : List (Nat × Obj)} (i : ST dd F w W μ L) (j : L.Perm (L0 ++ L2)) (he : ∀ args w, (callFunc f args).run P w = .ok (.enter f args) w) (m : Cs L0 W → (L0.map (·.1)).Nodup → jC μ (qH W L0) → (∀ b o, (b, o) ∈ L2 → qH W L0 b = some o) → ki dd P f args W L0 K') (h : ∀ W' v μ' L1, ST dd F w W' μ' (L1 ++ L2) → jC μ μ' → Lo F w μ μ' → (∀ b, W.heap.size ≤ b → ∀ o, qH W' L1 b = some o → μ' b = some o) → K' v L1 W' → K v W') (n : ji E fv = .func (.func f) #[] #[] := by exact rfl) (k : ax.toList.map (ji E) = args := by exact rfl) : mg P E ⟨d, .call ⟨.value fv, ax, ats⟩, ty, pos, af, g⟩ W K :=
 QY L0 L2 i j n he (aL k) (fun a b c d => by have := m a b c d; simpa using this) h
theorem OF {K' : Value → List (Nat × Obj) → jF → Prop} {L0 L2 : List (Nat × Obj)} (i : ST dd F w W μ L) (j : L.Perm (L0 ++ L2)) (he : ∀ args w, (callFunc f args).run P w = .ok (.enter f args) w) (m : Cs L0 W → (L0.map (·.1)).Nodup → jC μ (qH W L0) → (∀ b o, (b, o) ∈ L2 → qH W L0 b = some o) → nr dd P f args W μ L0 K') (h : ∀ W' v μ' L1, ST dd F w W' μ' (L1 ++ L2) → jC μ μ' → Lo F w μ μ' → K' v L1 μ' → K v W') (n : ji E fv = .func (.func f) #[] #[] := by exact rfl) (k : ax.toList.map (ji E) = args := by exact rfl) : mg P E ⟨d, .call ⟨.value fv, ax, ats⟩, ty, pos, af, g⟩ W K :=
 KS L0 L2 i j n he (aL k) (fun a b c d => by have := m a b c d; simpa using this) h
end
section
variable {E : Nat → Value} {x1 x2 x3 x4 x5 x6 x7 x8 : Operand} {v1 v2 v3 v4 v5 v6 v7 v8 : Value}
theorem TU (h1 : ji E x1 = v1) : [x1].map (ji E) = [v1] := by rw [← h1]; rfl
end
def UB (R : List (Nat × Obj)) (k : Nat) (p : Value) (i a : Nat) : Prop := ∃ g o, R = [(g, o)] ∧ p = .pointer (some ⟨g, i * k + a, none⟩)
theorem DH.f {R : List (Nat × Obj)} {k : Nat} {p : Value} {i : Nat} (h : DH R k p i) : UB R k p i 0 := h
section
variable {P : Program} {E : Nat → Value} {W : World} {d : Option Nat} {ty : TypeId} {pos : String} {af : Array Edge} {g : Option (Nat × Bool)}
 {dd : Bool} {F : Nat → Prop} {w : World} {μ : jF} {L : List (Nat × Obj)} {α : Type} {e' : TypeId} {enc : α → List Value} {k : Nat} {v : Value} {l : List α} {R : List (Nat × Obj)}
theorem jy.put (h : jy e' enc k v l R) (hk : ∀ x, (enc x).length = k) {p : Value} {i : Nat} (hp : DH R k p i) {x0 : α} (t : l[i]? = some x0) (x1 : α) :
  ∃ g a, R = [(g, .cells a e' (0, 0))] ∧ p = .pointer (some ⟨g, i * k, none⟩) ∧ i * k + k ≤ a.size ∧ (∀ j y, (enc x0)[j]? = some y → a[i * k + j]? = some y) ∧
   jy e' enc k v (l.set i x1) [(g, .cells (a.toList.take (i * k) ++ enc x1 ++ a.toList.drop (i * k + k)).toArray e' (0, 0))] := by
 have n : i < l.length := (aH.1 t).1
 obtain ⟨q, a, cap, rfl, rfl, s, z, m, A, rfl, D⟩ := AZ h hk hp t
 have hle : i * k + k ≤ cap * k := by
  have : (i + 1) * k ≤ cap * k := bd _ (by omega)
  rwa [bo, iS] at this
 have c : i * k + k ≤ l.length * k := by
  have : (i + 1) * k ≤ l.length * k := bd _ (by omega)
  rwa [bo, iS] at this
 have hlen : l.length * k ≤ cap * k := bd _ s
 refine ⟨q, a, rfl, rfl, by rw [m]; exact hle, D, .inr ⟨q, cap, _, by simp, rfl, by simpa using s, z, ?_, ?_⟩⟩
 ·show ((a.toList.take (i * k) ++ (enc x1) ++ a.toList.drop (i * k + k)).toArray).size = _
  have d : a.toList.length = cap * k := by simpa using m
  rw [bH, ah, ah, bx, bY, hk, d, bO (by omega)]; omega
 ·rw [gk, F2 hk l i x1 n, ← A]
  have u : (a.toList.take (l.length * k)).take (i * k) = a.toList.take (i * k) := by rw [eo]; congr 1; omega
  have w : (a.toList.take (l.length * k)).drop (i * k + k) = (a.toList.drop (i * k + k)).take (l.length * k - (i * k + k)) := by rw [fl]
  rw [u, w]
  show List.take (l.length * k) (a.toList.take (i * k) ++ enc x1 ++ a.toList.drop (i * k + k)) = _
  have d : a.toList.length = cap * k := by simpa using m
  have o : (a.toList.take (i * k) ++ enc x1).length = i * k + k := by rw [ah, bx, hk, d, bO (by omega)]
  rw [dt, bN (by rw [o]; exact c), o]
end
theorem oc {v : Value} (h : v.cells.toList.all Value.oneCell' = true := by exact rfl) : ∀ u ∈ v.cells.toList, u.oneCell' = true := ew.1 h
theorem dc {p : Prop} [Decidable p] (h : p := by decide) : p := h
theorem kr {p : Prop} (h : p := by kernel_rfl) : p := h
theorem br {α : Sort _} {a b : α} (h : a = b := by rfl) : a = b := h
abbrev LO := List (Nat × Obj)
abbrev Ob (c : Array Value) (t : TypeId) : Obj := .cells c t (0, 0)
abbrev Ol (c : List Value) (t : TypeId) : Obj := .cells c.toArray t (0, 0)
theorem mn {P : Program} {t e : TypeId} {m k : Nat} {z : Value} {a : Array (Nat × Value)} {cs : Array Value} (j : P.underlying t = some (.slice e)) (i : ∀ w, (sizeOf e).run P w = .ok k w) (o : ∀ w, (zeroValue e).run P w = .ok z w) (hm : m * k ≤ 16777216 := by decide) (g : a.toList = (a.toList.map (·.2)).zipIdx.map (fun p => (p.2, p.1)) := by exact rfl) (n : (a.toList.map (·.2)).all (fun v => v.cells.size == k) = true := by exact rfl) (d : (a.toList.map (·.2)).length = m := by exact rfl) (c : ((a.toList.map (·.2)).flatMap (fun v => v.cells.toList)).toArray = cs := by exact rfl) (W : World) :
  (Instr.buildSlice t m a).run P W = .ok (.slice (some ⟨W.heap.size, 0, none⟩) m m) (W.alloc (.cells cs e (0, 0))) :=
 Dc _ j i o hm g (fun v h => eq_of_beq (ew.1 n v h)) d c W
section
variable {dd : Bool} {P : Program} {fn : Func} {E : Nat → Value} {W w : World} {μ : jF} {L L0 : List (Nat × Obj)}
theorem rQ {α : Type} {f : α → Value} {a r : α} {t : Tmp} (hm : some a = some r) (c : ST dd jT w W μ L) (d : fn.results = #[.tmp t] := by exact rfl) (g : E t = f a := by exact rfl) : wI P fn (fun e W' => e = .returned (f r) ∧ Ex dd w W') .ret E W := by
 obtain rfl := sj hm; exact jR d g ⟨rfl, c.ex⟩
theorem cG (n : Nat) {f : FuncId} {c : Code} {args : List Value} {v : Value} (a : P.funcs[f]? = some fn) (d : fn.body = some c) (h : ST dd jT w w (hp w) [] → CW P n c (wI P fn (fun e j => e = .returned v ∧ Ex dd w j)) (wk args) w) (i : fn.ntmps = n := by exact rfl) (g : args.length ≤ n := by exact nb) : jJ dd P f args w v := xq a d i g (h (ST.start w))
theorem vi {K : Value → List (Nat × Obj) → World → Prop} (n : Nat) {f : FuncId} {c : Code} {args : List Value} (a : P.funcs[f]? = some fn) (g : fn.body = some c) (h : ST dd jT w w (hp w) [] → CW P n c (wI P fn (fun e d => ∃ v L1, e = .returned v ∧ qF dd [] L1 w d ∧ K v L1 d)) (wk args) w) (j : fn.ntmps = n := by exact rfl) (i : args.length ≤ n := by exact nb) : ki dd P f args w [] K := xq a g j i (h (ST.start w))
theorem vg {K : Value → List (Nat × Obj) → World → Prop} (g : na μ L0 w) (n : Nat) {f : FuncId} {c : Code} {args : List Value} (a : P.funcs[f]? = some fn) (i : fn.body = some c) (h : ST dd (keys L0) w w μ L0 → CW P n c (wI P fn (fun e d => ∃ v L1, e = .returned v ∧ qF dd L0 L1 w d ∧ K v L1 d)) (wk args) w) (k : fn.ntmps = n := by exact rfl) (j : args.length ≤ n := by exact nb) : ki dd P f args w L0 K := xq a i k j (h (ST.tG g))
theorem Qs {K : Value → List (Nat × Obj) → jF → Prop} (g : na μ L0 w) (n : Nat) {f : FuncId} {c : Code} {args : List Value} (a : P.funcs[f]? = some fn) (i : fn.body = some c) (h : ST dd (keys L0) w w μ L0 → CW P n c (wI P fn (fun e d => ∃ v L1 μ1, e = .returned v ∧ qF dd L0 L1 w d ∧ jC μ μ1 ∧ Lo (keys L0) w μ μ1 ∧ jC μ1 (qH d L1) ∧ K v L1 μ1)) (wk args) w) (k : fn.ntmps = n := by exact rfl) (j : args.length ≤ n := by exact nb) : nr dd P f args w μ L0 K := xq a i k j (h (ST.tG g))
end
section
variable {dd : Bool}
variable {P : Program} {E : Nat → Value} {W : World} {d : Option Nat} {ty : TypeId} {pos : String} {af : Array Edge} {g : Option (Nat × Bool)}
 {F : Nat → Prop} {w : World} {μ : jF} {L : List (Nat × Obj)}
variable {f : FuncId} {fv : Operand} {ax : Array Operand} {ats : Array TypeId} {args : List Value} {v : Value} {K : Value → World → Prop}
theorem eM {K' : Value → List (Nat × Obj) → World → Prop} {L0 L2 : List (Nat × Obj)} (i : ST dd F w W μ L) (j : L.Perm (L0 ++ L2)) (he : ∀ args w, (callFunc f args).run P w = .ok (.enter f args) w) (m : na (qH W L0) L0 W → jC μ (qH W L0) → ki dd P f args W L0 K') (h : ∀ W' v μ' L1, ST dd F w W' μ' (L1 ++ L2) → jC μ μ' → Lo F w μ μ' → (∀ b, W.heap.size ≤ b → ∀ o, qH W' L1 b = some o → μ' b = some o) → K' v L1 W' → K v W') (n : ji E fv = .func (.func f) #[] #[] := by exact rfl) (k : ax.toList.map (ji E) = args := by exact rfl) : mg P E ⟨d, .call ⟨.value fv, ax, ats⟩, ty, pos, af, g⟩ W K :=
 FO i j he (fun a b c _ => m ⟨a, b, jC.refl _⟩ c) h n k
theorem eD {K' : Value → List (Nat × Obj) → jF → Prop} {L0 L2 : List (Nat × Obj)} (i : ST dd F w W μ L) (j : L.Perm (L0 ++ L2)) (he : ∀ args w, (callFunc f args).run P w = .ok (.enter f args) w) (m : na μ L0 W → nr dd P f args W μ L0 K') (h : ∀ W' v μ' L1, ST dd F w W' μ' (L1 ++ L2) → jC μ μ' → Lo F w μ μ' → K' v L1 μ' → K v W') (n : ji E fv = .func (.func f) #[] #[] := by exact rfl) (k : ax.toList.map (ji E) = args := by exact rfl) : mg P E ⟨d, .call ⟨.value fv, ax, ats⟩, ty, pos, af, g⟩ W K :=
 OF i j he (fun a b c _ => m ⟨a, b, c⟩) h n k
end
def On (op : BinOp) : Value → Value → Option Value
 | .int k a, .int k' b => if k = k' then I6 k op a b else none
 | _, _ => none
def Sa (i : Nat) : Value → Option Value
 | .tuple vs => vs[i]?
 | _ => none
def Je : Value → Bool
 | .pointer (some ⟨_, _, none⟩) => true
 | _ => false
def RV (o : Nat) : Value → Value
 | .pointer (some ⟨b, k, none⟩) => .pointer (some ⟨b, k + o, none⟩)
 | v => v
theorem Ig {v : Value} (h : Je v = true) : ∃ b k, v = .pointer (some ⟨b, k, none⟩) := by
 unfold Je at h; split at h
 ·exact ⟨_, _, rfl⟩
 ·cases h
section
variable {P : Program} {n : Nat} {Q : mP} {E : Nat → Value} {W : World} {ops : Array Oper} {rest : List Oper}
 {d j t : Nat} {want b : Bool} {v : Value} {ins : Go.Op} {ty : TypeId} {pos : String} {af : Array Edge} {A : Value → Prop} {x y : Operand}
theorem Wm (h : LW P n ops Q rest (mu E d (ji E x)) W) (a : d < n := by decide) : LW P n ops Q (⟨some d, .move x, ty, pos, af, none⟩ :: rest) E W := V (jl rfl) h a
theorem Wa (h : LW P n ops Q rest (mu E d (ji E x)) W) (a : d < n := by decide) : LW P n ops Q (⟨some d, .assign x, ty, pos, af, none⟩ :: rest) E W := V (lO rfl) h a
theorem Wh (c : ji E x = v) (h : LW P n ops Q rest (mu E d v) W) (a : d < n := by decide) : LW P n ops Q (⟨some d, .move x, ty, pos, af, none⟩ :: rest) E W := V (jl c) h a
theorem Wg (c : ji E x = v) (h : LW P n ops Q rest (mu E d v) W) (a : d < n := by decide) : LW P n ops Q (⟨some d, .assign x, ty, pos, af, none⟩ :: rest) E W := V (lO c) h a
theorem Wx {i : Nat} (a : Sa i (ji E x) = some v) (h : LW P n ops Q rest (mu E d v) W) (c : d < n := by decide) : LW P n ops Q (⟨some d, .extract x i, ty, pos, af, none⟩ :: rest) E W := by
 unfold Sa at a; split at a
 ·rename_i vs e; exact V (zY e a) h c
 ·cases a
theorem Wi {op : BinOp} {tx tv : TypeId} (c : On op (ji E x) (ji E y) = some v) (h : LW P n ops Q rest (mu E d v) W) (j : d < n := by decide) : LW P n ops Q (⟨some d, .binOp op tx x y tv, ty, pos, af, none⟩ :: rest) E W := by
 unfold On at c; split at c
 ·rename_i k a k' b g i
  split at c
  ·rename_i e; subst e; exact V (kv g i c) h j
  ·cases c
 ·cases c
theorem Wf {t : TypeId} {f off : Nat} (a : kY P t f off) (h : LW P n ops Q rest (mu E d (RV off (ji E x))) W) (hp : Je (ji E x) = true := by exact rfl) (c : d < n := by decide) : LW P n ops Q (⟨some d, .fieldAddr t x f, ty, pos, af, none⟩ :: rest) E W := by
 obtain ⟨b, k, e⟩ := Ig hp
 refine V (jh a e) ?_ c
 rw [e] at h; exact h
theorem Wn (h : LW P n ops Q rest (mu E d (ji E x)) W) (hp : Je (ji E x) = true := by exact rfl) (a : d < n := by decide) : LW P n ops Q (⟨some d, .nilCheck x, ty, pos, af, none⟩ :: rest) E W := by
 obtain ⟨b, k, e⟩ := Ig hp
 refine V (kJ e) ?_ a
 rw [e] at h; exact h
theorem un (h : b = !want) (k : LW P n ops Q rest (mu E d undef) W) (c : (ops[j]?).bind (·.dst) = some t := by exact rfl) (a : E t = .bool b := by exact rfl) (i : t < n := by decide) (g : d < n := by decide) :
  LW P n ops Q (⟨some d, ins, ty, pos, af, some (j, want)⟩ :: rest) E W := Vn c (by rw [a, h]) k i g
theorem ug (h : b = want) (i : kA P E ⟨some d, ins, ty, pos, af, some (j, want)⟩ W v W) (k : LW P n ops Q rest (mu E d v) W) (c : (ops[j]?).bind (·.dst) = some t := by exact rfl) (a : E t = .bool b := by exact rfl) (m : t < n := by decide) (g : d < n := by decide) :
  LW P n ops Q (⟨some d, ins, ty, pos, af, some (j, want)⟩ :: rest) E W := Vg c (by rw [a, h]) i k m g
theorem pV (h : b = want) (k : mg P E ⟨some d, ins, ty, pos, af, some (j, want)⟩ W fun v W' => LW P n ops Q rest (mu E d v) W') (c : (ops[j]?).bind (·.dst) = some t := by exact rfl) (a : E t = .bool b := by exact rfl) (i : t < n := by decide) (g : d < n := by decide) :
  LW P n ops Q (⟨some d, ins, ty, pos, af, some (j, want)⟩ :: rest) E W := OR c (by rw [a, h]) k i g
theorem Sf (h : b = want) (i : ∃ p, A p ∧ ∀ W, kA P E ⟨some d, ins, ty, pos, af, some (j, want)⟩ W p W) (k : ∀ p, A p → LW P n ops Q rest (mu E d p) W) (c : (ops[j]?).bind (·.dst) = some t := by exact rfl) (a : E t = .bool b := by exact rfl) (m : t < n := by decide) (g : d < n := by decide) :
  LW P n ops Q (⟨some d, ins, ty, pos, af, some (j, want)⟩ :: rest) E W := TS c (by rw [a, h]) i k m g
section
variable {dd : Bool} {F : Nat → Prop} {w : World} {μ : jF} {L : List (Nat × Obj)} {T : TypeId} {a off : Nat} {cs : Array Value} {fr : Nat × Nat}
theorem VA {t : TypeId} (c : ST dd F w W μ L) (i : (a, Obj.cells cs T fr) ∈ L) (ys : List Value) (g : ∀ w, (isAgg t).run P w = .ok true w) (j : ∀ w, (sizeOf t).run P w = .ok ys.length w) (h : LW P n ops Q rest (mu E d (.agg ys.toArray)) W) (m : ji E x = .pointer (some ⟨a, off, none⟩) := by exact rfl) (o : (cs.toList.drop off).take ys.length = ys := by exact rfl) (k : d < n := by decide) : LW P n ops Q (⟨some d, .load t x, ty, pos, af, none⟩ :: rest) E W := V (jf m (jm c.has i ys o g j)) h k
theorem VB {t : TypeId} (c : ST dd F w W μ L) (i : (a, Obj.cells cs T fr) ∈ L) (k : ji E x = .pointer (some ⟨a, off, none⟩)) (m : cs[off]? = some v) (g : ∀ w, (isAgg t).run P w = .ok false w) (h : LW P n ops Q rest (mu E d v) W) (j : d < n := by decide) : LW P n ops Q (⟨some d, .load t x, ty, pos, af, none⟩ :: rest) E W := V (jf k (jq c.has i m g)) h j
end
section
variable {K : (Nat → Value) → World → Prop} {Q' : mP} {c : Code} {id id2 : Nat} {l : List Oper} {z : Code}
theorem sg (h : LW P n l.toArray (pa (fun E W => CW P n c Q E W) Q) l E W) : CW P n (.seq (.region id l.toArray false) c) Q E W := jo (jk h)
theorem ln (h : K E W) : LW P n ops (pa K Q) [] E W := jH (jj h)
theorem lr (h : LW P n l.toArray (pa (fun E W => CW P n c Q E W) Q) l E W) : LW P n ops (pa (fun E W => CW P n (.seq (.region id l.toArray false) c) Q E W) Q') [] E W := jH (jj (jo (jk h)))
theorem lS (h : LW P n l.toArray (pa (fun E W => CW P n c (pa (fun E W => CW P n z Q E W) Q) E W) (pa (fun E W => CW P n z Q E W) Q)) l E W) : LW P n ops (pa (fun E W => CW P n (.seq (.seq (.region id l.toArray false) c) z) Q E W) Q') [] E W := jH (jj (jo (jo (jk h))))
theorem bg (h : LW P n l.toArray (pa (fun E W => CW P n c (vI id2 Q) E W) (vI id2 Q)) l E W) : CW P n (.block id2 (.seq (.region id l.toArray false) c)) Q E W := kV (jo (jk h))
theorem kg (h : LW P n l.toArray (pa (fun E W => CW P n c Q E W) Q) l E W) : CW P n .skip (pa (fun E W => CW P n (.seq (.region id l.toArray false) c) Q E W) Q') E W := jW (jj (jo (jk h)))
theorem kS (h : LW P n l.toArray (pa (fun E W => CW P n c (pa (fun E W => CW P n z Q E W) Q) E W) (pa (fun E W => CW P n z Q E W) Q)) l E W) : CW P n .skip (pa (fun E W => CW P n (.seq (.seq (.region id l.toArray false) c) z) Q E W) Q') E W := jW (jj (jo (jo (jk h))))
theorem lt (h : Q .ret E W) : LW P n ops (pa (fun E W => CW P n .ret Q E W) Q') [] E W := jH (jj (jN h))
theorem kn (h : K E W) : CW P n .skip (pa K Q) E W := jW (jj h)
end
end
theorem ST.Te {α : Type} {dd : Bool} {F : Nat → Prop} {w W : World} {μ : jF} {R Y : List (Nat × Obj)} {e' : TypeId} {enc : α → List Value} {k : Nat} {v : Value} {l : List α} (d : ST dd F w W μ (R ++ Y)) (h : pk e' enc k v l R) (hk : ∀ x, (enc x).length = k) : ∃ μ', ST dd F w W μ' Y ∧ jC μ μ' ∧ Lo F w μ μ' ∧ Sl (Pl enc) k μ' v l := by
 obtain ⟨μ', g, a2, a3, a4⟩ := ST.yk d
 refine ⟨μ', g, a2, a3, (h.EH hk).mono (Pl.mono _) (fun b o a => ?_)⟩
 unfold Be at a
 cases c : List.find? (fun p => p.1 == b) R with
 | none => rw [c] at a; cases a
 | some q =>
  rw [c] at a
  have h1 := List.mem_of_find?_eq_some c
  have i := List.find?_some c
  obtain rfl : q.2 = o := by simpa using a
  obtain rfl : q.1 = b := by simpa using i
  exact a4 _ _ h1
section
variable {P : Program} {E : Nat → Value} {W : World} {d : Option Nat} {ty : TypeId} {pos : String} {af : Array Edge} {g : Option (Nat × Bool)}
theorem RZ {tx tv : TypeId} {x y : Operand} {k : IntKind} {a b : Int} (c : ji E x = .int k a) (h : ji E y = .int k b) :
  kA P E ⟨d, .binOp .andNot tx x y tv, ty, pos, af, g⟩ W (.int k (k.wrap (BitVec.ofInt k.bits a &&& ~~~ BitVec.ofInt k.bits b).toNat)) W := by
 show (do let r ← (do eqGuard .andNot tx x y (ji E x) (ji E y); binOp .andNot tx (ji E x) (ji E y)); pure (.value r) : Sem Next).run P W = _
 rw [c, h]
 simp [eqGuard, binOp, Op.intBits]
end
def TO {β : Type} (P : Program) (fv : Value) (μ : jF) (Rl : qa β) (pm : β × β → Option Int) : Prop :=
 ∃ f caps, fv = .func (.func f) #[] caps ∧ (∀ args w, (callFunc f args).run P w = .ok (.enter f args) w) ∧ ∀ W x y z r, jC μ (hp W) → Rl (hp W) [y] x.1 → Rl (hp W) [z] x.2 → pm x = some r → jJ true P f ([y, z] ++ caps.toList) W (.int .i64 r)
open Classical in
noncomputable def FA {β : Type} (cf : β × β → Option Int) (l : List β) : Option (List β) := if l.Nodup then w8 cf l else none
theorem pk.NX {α : Type} {dd : Bool} {w W : World} {μ : jF} {L R : List (Nat × Obj)} {e : TypeId} {enc : α → List Value} {k : Nat} {v : Value} {l : List α} (h : pk e enc k v l R) (c : ST dd jT w W μ L) (i : ∀ p, p ∈ R → p ∈ L) : Fr w.heap.size v := by
 rcases h with ⟨rfl, rfl, rfl⟩ | ⟨g, off, cap, a, rfl, rfl, h1, j, m, n⟩
 ·exact Fr.nil _
 ·intro b d
  simp [Value.ownBlock] at d
  subst d
  rcases (c.box g (.cells a e (0, 0)) (i _ (aF.2 rfl))).2.2 with h | h
  ·exact h
  ·exact h.elim
theorem FR.mono {α β : Type} {P : Program} {fv : Value} {μ μ0 : jF} {a : α → List Value} {c : β → Value} {pm : α → Option β} (h : FR P fv μ a c pm) (i : jC μ μ0) : FR P fv μ0 a c pm := by
 obtain ⟨f, caps, h1, d, g⟩ := h
 exact ⟨f, caps, h1, d, fun W x r h => g W x r (i.trans h)⟩
theorem FR.form {α β : Type} {P : Program} {fv : Value} {μ : jF} {c : α → List Value} {d : β → Value} {pm : α → Option β} (h : FR P fv μ c d pm) : ∃ f a b, fv = .func f a b := let ⟨f, b, h, _⟩ := h; ⟨_, _, b, h⟩
theorem Tg {P : Program} {E : Nat → Value} {d : Option Nat} {ty : TypeId} {pos : String} {af : Array Edge} {g : Option (Nat × Bool)} {F : Nat → Prop} {w W : World} {μ μ0 : jF} {L : List (Nat × Obj)} {dd : Bool} {α β : Type} {K : Value → World → Prop} {fv : Value} {c : α → List Value} {k : β → Value} {pm : α → Option β} {i : Operand} {ax : Array Operand} {ats : Array TypeId} (x : α) {r : β} (a : ST dd F w W μ L) (s : FR P fv μ0 c k pm) (u : jC μ0 μ) (t : ji E i = fv) (q : ax.map (ji E) ++ (#[] : Array Value) = (c x).toArray) (hm : pm x = some r) (h : ∀ W', ST dd F w W' μ L → K (k r) W') : mg P E ⟨d, .call ⟨.value i, ax, ats⟩, ty, pos, af, g⟩ W K := by
 obtain ⟨f, caps, rfl, m, n⟩ := s
 have j : ax.map (ji E) = (c x).toArray := by simpa using q
 refine .inr (.inr ⟨f, (c x ++ caps.toList).toArray, ?_, bw ((n W x r (u.trans a.ju) hm).kI (dd := dd)) (fun _ _ ⟨o, p⟩ => ⟨_, o, h _ (a.Fi p)⟩)⟩)
 show (do let d ← resolve (ji E) ⟨.value i, ax, ats⟩ ty; invoke d.target d.args : Sem Next).run P W = _
 simp only [resolve, t, Deferred.ofValue, aZ, bQ, aN, invoke, j, m]
 congr 2
 simp
def GK {S : Type} (rd : S → List Int) : Int ⊕ S → Int
 | .inl x => x
 | .inr r => if (rd r).length > 0 then 13 else 0
noncomputable def DR (s : ByteArray) (lo hi : Int) : Option ByteArray := if 0 ≤ lo ∧ lo ≤ hi ∧ hi ≤ s.size then some (s.extract lo.toNat hi.toNat) else none
theorem JH {s r : ByteArray} {lo hi : Int} (h : DR s lo hi = some r) : (0 ≤ lo ∧ lo ≤ hi ∧ hi ≤ s.size) ∧ r = s.extract lo.toNat hi.toNat := by
 unfold DR at h
 split at h
 ·cases h; exact ⟨‹_›, rfl⟩
 ·cases h
section
variable {P : Program} {E : Nat → Value} {W : World} {d : Option Nat} {ty : TypeId} {pos : String} {af : Array Edge} {g : Option (Nat × Bool)} {t : TypeId} {x lo hi : Operand} {k k' : IntKind} {i j : Int} {s r : ByteArray}
theorem Iq (j : P.underlying t = some .string) (m : ji E x = .string s) (c : ji E lo = .int k i) (h : DR s i s.size = some r) : kA P E ⟨d, .slice t x (some lo) none none, ty, pos, af, g⟩ W (.string r) W := by
 obtain ⟨⟨h1, a, n⟩, rfl⟩ := JH h
 show (do pure (.value (← Instr.sliceAt t (ji E x) (some (ji E lo)) none none)) : Sem Next).run P W = _
 rw [m, c]
 simp [Instr.sliceAt, Instr.slice, ar j, Instr.sliceBounds, Instr.sliceBound, asIntOf, h1, a]
theorem N9 (m : P.underlying t = some .string) (n : ji E x = .string s) (i : ji E hi = .int k j) (h : DR s 0 j = some r) : kA P E ⟨d, .slice t x none (some hi) none, ty, pos, af, g⟩ W (.string r) W := by
 obtain ⟨⟨h1, a, c⟩, rfl⟩ := JH h
 show (do pure (.value (← Instr.sliceAt t (ji E x) none (some (ji E hi)) none)) : Sem Next).run P W = _
 rw [n, i]
 simp [Instr.sliceAt, Instr.slice, ar m, Instr.sliceBounds, Instr.sliceBound, asIntOf, a, c]
end
def M9 (P : Program) (fn : Func) (R : Ending → World → Prop) : mP
 | .normal, E, W | .ret, E, W => ∃ v, (∀ tmps : Array Value, (∀ t, tmps.getD t undef = E t) → (results fn tmps).run P W = .ok v W) ∧ R (.returned v) W
 | .panic c, _, W => R (.panicked c) W
 | _, _, _ => False
theorem tZ {P : Program} {fn : Func} {R : Ending → World → Prop} {E : Nat → Value} {W : World} (h : wI P fn R .ret E W) : M9 P fn R .ret E W := h
theorem oz {P : Program} {f : FuncId} {fn : Func} {c : Code} {args : List Value} {w : World} {R : Ending → World → Prop} {n : Nat} (p : P.funcs[f]? = some fn) (o : fn.body = some c) (s : fn.ntmps = n) (q : args.length ≤ n) (h : CW P n c (M9 P fn R) (wk args) w) : Calls P f args.toArray w R := by
 refine calls_of_wp p o ?_
 have j : Ag n { tmps := args.toArray ++ Array.replicate (fn.ntmps - args.toArray.size) undef, defers := [] } (wk args) := by
  refine ⟨by simp; omega, rfl, fun t => ?_⟩
  simp only [wk, bM, ek, dT, eH, bH, dU]
  by_cases m : t < args.length
  ·rw [aj m]
  ·rw [ai m, bR (by omega)]
   split <;> simp
 refine eJ (h _ j) (fun e a u g => ?_)
 cases e with
 | normal =>
  obtain ⟨E, d, v, k, i⟩ := g
  exact ⟨d.2.1, v, k _ d.2.2, i⟩
 | ret =>
  obtain ⟨E, d, v, k, i⟩ := g
  exact ⟨d.2.1, v, k _ d.2.2, i⟩
 | exit id => obtain ⟨E, d, h⟩ := g; exact h.elim
 | goto l => obtain ⟨E, d, h⟩ := g; exact h.elim
 | panic c => exact g
 | outgrown => exact g.elim
def Jl (P : Program) (E : Nat → Value) (o : Oper) (W : World) (X : List PanicEntry → World → Prop) : Prop :=
 (∃ v W', (execOp (ji E) o).run P W = .halt (.panic v) W' ∧ X [{ v := v, recovered := false }] W') ∨
 (∃ f args, (execOp (ji E) o).run P W = .ok (.enter f args) W ∧ Calls P f args W fun e a => ∃ c, e = .panicked c ∧ X c a)
theorem Jl.wp {P : Program} {n : Nat} {E : Nat → Value} {o : Oper} {W : World} {X : List PanicEntry → World → Prop} (h : Jl P E o W X) {a : Act} (g : Ag n a E) {K : Exit → Act → World → Prop} {J : Act → World → Prop} (hk : ∀ c w, X c w → K (.panic c) a w) : o.wp P a W J K := by
 unfold Oper.wp
 rw [g.eval]
 rcases h with ⟨v, W', h1, d⟩ | ⟨f, args, h1, d⟩
 ·rw [h1]; exact hk _ _ d
 ·rw [h1, dm]
  refine bw d ?_
  rintro e j ⟨c, rfl, i⟩
  exact hk _ _ i
section
variable {P : Program} {n : Nat} {Q : mP} {E : Nat → Value} {W : World} {ops : Array Oper} {rest : List Oper} {S : Array Bool → World → Prop} {fuel : Nat} {listed : Array Bool}
theorem pR {o : Oper} (hw : lV n ops E o) (h : Jl P E o W fun c w => Q (.panic c) E0 w) : LW P n ops Q (o :: rest) E W := fun a d => by
 unfold wpList
 rw [aj (hw.of d)]
 refine .inl ?_
 exact h.wp d (fun c w g => ⟨d.2.1, g⟩)
theorem RO {o : Oper} (i : Nat) (hi : ops[i]? = some o) (g : Region.ready .any ops listed = [i]) (hw : lV n ops E o) (h : Jl P E o W fun c w => Q (.panic c) E0 w) : PX P n ops Q S (fuel + 1) listed E W := fun q a d => by
 refine ⟨fun m => (by rw [m] at g; cases g), fun j k => ?_⟩
 rw [g] at k
 obtain rfl := aF.1 k
 unfold wpOp
 simp only [hi]
 rw [aj (hw.of d)]
 refine .inl ?_
 exact h.wp d (fun c w p => ⟨d.2.1, p⟩)
end
def lg {R : Type} (dd : Bool) (w : World) (μ0 : jF) (L0 : List (Nat × Obj)) (s : Int ⊕ R) (K : R → Value → List (Nat × Obj) → jF → Prop) (X : Int → List PanicEntry → List (Nat × Obj) → jF → Prop) : Ending → World → Prop := fun e a =>
 match s with
 | .inl x => ∃ c L1 μ1, e = .panicked c ∧ qF dd L0 L1 w a ∧ jC μ0 μ1 ∧ Lo (keys L0) w μ0 μ1 ∧ jC μ1 (qH a L1) ∧ X x c L1 μ1
 | .inr r => ∃ v L1 μ1, e = .returned v ∧ qF dd L0 L1 w a ∧ jC μ0 μ1 ∧ Lo (keys L0) w μ0 μ1 ∧ jC μ1 (qH a L1) ∧ K r v L1 μ1
def EJ (dd : Bool) (P : Program) (f : FuncId) (args : List Value) (w : World) (μ0 : jF) (L0 : List (Nat × Obj)) (X : List PanicEntry → List (Nat × Obj) → jF → Prop) : Prop :=
 Calls P f args.toArray w fun e a => ∃ c L1 μ1, e = .panicked c ∧ qF dd L0 L1 w a ∧ jC μ0 μ1 ∧ Lo (keys L0) w μ0 μ1 ∧ jC μ1 (qH a L1) ∧ X c L1 μ1
def jQ {R : Type} (dd : Bool) (P : Program) (f : FuncId) (args : List Value) (w : World) (μ0 : jF) (L0 : List (Nat × Obj)) (s : Int ⊕ R) (K : R → Value → List (Nat × Obj) → jF → Prop) (X : Int → List PanicEntry → List (Nat × Obj) → jF → Prop) : Prop :=
 Calls P f args.toArray w (lg dd w μ0 L0 s K X)
theorem jQ.r {R : Type} {dd : Bool} {P : Program} {f : FuncId} {args : List Value} {w : World} {μ0 : jF} {L0 : List (Nat × Obj)} {r : R} {K : R → Value → List (Nat × Obj) → jF → Prop} {X : Int → List PanicEntry → List (Nat × Obj) → jF → Prop} (h : jQ dd P f args w μ0 L0 (.inr r) K X) : nr dd P f args w μ0 L0 (K r) := h
theorem jQ.l {R : Type} {dd : Bool} {P : Program} {f : FuncId} {args : List Value} {w : World} {μ0 : jF} {L0 : List (Nat × Obj)} {x : Int} {K : R → Value → List (Nat × Obj) → jF → Prop} {X : Int → List PanicEntry → List (Nat × Obj) → jF → Prop} (h : jQ dd P f args w μ0 L0 (.inl x : Int ⊕ R) K X) : EJ dd P f args w μ0 L0 (X x) := h
theorem lF {K : (Nat → Value) → World → Prop} {Q : mP} {c : List PanicEntry} {E : Nat → Value} {W : World} (h : Q (.panic c) E W) : pa K Q (.panic c) E W := h
theorem uP {id : Nat} {Q : mP} {c : List PanicEntry} {E : Nat → Value} {W : World} (h : Q (.panic c) E W) : vI id Q (.panic c) E W := h
theorem nc {P : Program} {fn : Func} {R : Ending → World → Prop} {c : List PanicEntry} {E : Nat → Value} {W : World} (h : R (.panicked c) W) : M9 P fn R (.panic c) E W := h
section
variable {P : Program} {W : World} {E : Nat → Value} {d : Option Nat} {ty : TypeId} {pos : String} {af : Array Edge} {g : Option (Nat × Bool)} {F : Nat → Prop} {w : World} {μ : jF} {L : List (Nat × Obj)} {dd : Bool}
theorem ma {X : List PanicEntry → World → Prop} {X' : List PanicEntry → List (Nat × Obj) → jF → Prop} {f : FuncId} {fv : Operand} {ax : Array Operand} {ats : Array TypeId} {caps : Array Value} {args : List Value} (L0 L2 : List (Nat × Obj)) (a : ST dd F w W μ L) (i : L.Perm (L0 ++ L2)) (z : ji E fv = .func (.func f) #[] caps) (he : ∀ args w, (callFunc f args).run P w = .ok (.enter f args) w) (u : ax.map (ji E) ++ (#[] : Array Value) = args.toArray) (y : Cs L0 W → (L0.map (·.1)).Nodup → jC μ (qH W L0) → (∀ b o, (b, o) ∈ L2 → qH W L0 b = some o) → EJ dd P f (args ++ caps.toList) W μ L0 X') (h : ∀ W' c μ' L1, ST dd F w W' μ' (L1 ++ L2) → jC μ μ' → Lo F w μ μ' → X' c L1 μ' → X c W') : Jl P E ⟨d, .call ⟨.value fv, ax, ats⟩, ty, pos, af, g⟩ W X := by
 have j : ax.map (ji E) = args.toArray := by simpa using u
 refine .inr ⟨f, (args ++ caps.toList).toArray, Il z he (by rw [j]; simp), bw (y (a.held i) (a.Py i) (a.PZ i) (a.HT i)) (fun _ W' ⟨v, L1, μ1, h1, m, n, k, p, s⟩ => ⟨v, h1, h W' v μ1 L1 ((a.perm i).Qh m k p) n (fun b x t => k b (cE x a.size) (fun ⟨o, A⟩ => by
  rcases ((a.perm i).box b o (aW _ A)).2.2 with q | q
  ·omega
  ·exact t q)) s⟩)⟩
end
section
variable {P : Program} {W : World} {E : Nat → Value} {d : Option Nat} {ty : TypeId} {pos : String} {af : Array Edge} {g : Option (Nat × Bool)}
def uJ (t : TypeId) (b : Nat) (x : Int) : Value := .iface t (.agg #[.pointer (some ⟨b, 0, none⟩), .int .i64 x])
theorem Q0 {t : TypeId} {x : Operand} {v : Value} {u : TypeDesc} (a : P.underlying t = some u) (hu : ∀ q, u ≠ .interface q) (c : ji E x = v) : kA P E ⟨d, .makeInterface t x, ty, pos, af, g⟩ W (.iface t v) W := by
 show (do let r ← Instr.makeInterface t (ji E x); pure (.value r) : Sem Next).run P W = _
 rw [c]
 unfold Instr.makeInterface
 simp only [aZ, ar a, aN]
 cases u <;> simp_all
theorem QN {X : List PanicEntry → World → Prop} {x : Operand} {t : TypeId} {v : Value} (a : ji E x = .iface t v) (h : X [{ v := .iface t v, recovered := false }] W) : Jl P E ⟨d, .panic x, ty, pos, af, g⟩ W X := by
 refine .inl ⟨.iface t v, W, ?_, h⟩
 show (do let r ← Instr.panic (ji E x); pure (.value r) : Sem Next).run P W = _
 rw [a]
 simp [Instr.panic]
end
theorem lg.li {R : Type} {dd : Bool} {w : World} {μ0 : jF} {L0 : List (Nat × Obj)} {x : Int} {K : R → Value → List (Nat × Obj) → jF → Prop} {X : Int → List PanicEntry → List (Nat × Obj) → jF → Prop} {e : Ending} {a : World} (h : ∃ c L1 μ1, e = .panicked c ∧ qF dd L0 L1 w a ∧ jC μ0 μ1 ∧ Lo (keys L0) w μ0 μ1 ∧ jC μ1 (qH a L1) ∧ X x c L1 μ1) : lg dd w μ0 L0 (.inl x : Int ⊕ R) K X e a := h
theorem lg.ri {R : Type} {dd : Bool} {w : World} {μ0 : jF} {L0 : List (Nat × Obj)} {r : R} {K : R → Value → List (Nat × Obj) → jF → Prop} {X : Int → List PanicEntry → List (Nat × Obj) → jF → Prop} {e : Ending} {a : World} (h : ∃ v L1 μ1, e = .returned v ∧ qF dd L0 L1 w a ∧ jC μ0 μ1 ∧ Lo (keys L0) w μ0 μ1 ∧ jC μ1 (qH a L1) ∧ K r v L1 μ1) : lg dd w μ0 L0 (.inr r : Int ⊕ R) K X e a := h
theorem HX {P : Program} {fn : Func} {R : Ending → World → Prop} {E : Nat → Value} {W : World} (h : wI P fn R .normal E W) : M9 P fn R .normal E W := h
theorem EJ.kI {dd : Bool} {P : Program} {f : FuncId} {args : List Value} {w : World} {μ0 : jF} {L0 : List (Nat × Obj)} {X : List PanicEntry → List (Nat × Obj) → jF → Prop} (h : EJ true P f args w μ0 L0 X) : EJ dd P f args w μ0 L0 X :=
 bw h fun _ _ ⟨v, L1, μ1, h1, a, c⟩ => ⟨v, L1, μ1, h1, a.kI, c⟩
def B1 (D : List Deferred) (n : Nat) (a : Act) (E : Nat → Value) : Prop := a.tmps.size = n ∧ a.defers = D ∧ ∀ t, a.tmps.getD t undef = E t
section
variable {D : List Deferred} {n : Nat} {a : Act} {E : Nat → Value}
theorem B1.eval (h : B1 D n a E) : a.eval = ji E := by
 funext x
 cases x with
 | tmp t => exact h.2.2 t
 | const v => rfl
 | global g => rfl
 | func f => rfl
theorem B1.put (h : B1 D n a E) {d : Nat} (i : d < n) (v : Value) : B1 D n (a.put (some d) v) (mu E d v) := by
 refine ⟨by simp [Act.put, h.1], h.2.1, fun t => ?_⟩
 have g := h.2.2 t
 simp only [Act.put, mu]
 by_cases c : t = d
 ·subst c
  simp [h.1, i]
 ·have : ¬ d = t := fun e => c e.symm
  rw [ai c, ← g]
  simp [bM, this]
theorem B1.uD (h : B1 D n a E) (v : Value) : B1 D n (a.put none v) E := h
theorem B1.yield (h : B1 D n a E) {ops : Array Oper} {j t : Nat} {b : Bool} (d : (ops[j]?).bind (·.dst) = some t) (i : t < n) (k : E t = .bool b) : yielded ops a.tmps j = some b := by
 have c := h.2.2 t
 have g : a.tmps[t]? = some (E t) := by
  rw [← c]
  simp [bM, h.1, i]
 simp [yielded, d, g, k]
end
def NH (D : List Deferred) (n : Nat) (Q : mP) : Exit → Act → World → Prop
 | .panic c, a, w => a.defers = D ∧ a.tmps.size = n ∧ Q (.panic c) (fun t => a.tmps.getD t undef) w
 | .outgrown, _, _ => False
 | e, a, w => ∃ E, B1 D n a E ∧ Q e E w
def DO (D : List Deferred) (P : Program) (n : Nat) (c : Code) (Q : mP) (E : Nat → Value) (W : World) : Prop := ∀ a, B1 D n a E → c.wp P (NH D n Q) a W
def Ba (D : List Deferred) (P : Program) (n : Nat) (ops : Array Oper) (Q : mP) (l : List Oper) (E : Nat → Value) (W : World) : Prop := ∀ a, B1 D n a E → wpList P ops (NH D n Q) l a W
section
variable {D : List Deferred} {P : Program} {n : Nat} {Q : mP} {E : Nat → Value} {W : World} {c x y : Code} {ops : Array Oper} {rest : List Oper} {o : Oper}
theorem AQ (h : DO D P n x (pa (fun E W => DO D P n y Q E W) Q) E W) : DO D P n (.seq x y) Q E W := fun a g =>
 wp_seq (eJ (h a g) (fun e d j h => by
  cases e with
  | normal => obtain ⟨E', c, i⟩ := h; exact i d c
  | _ => exact h))
theorem PK (h : Q .normal E W) : DO D P n .skip Q E W := fun _ a => wp_skip ⟨E, a, h⟩
theorem Mu (h : Q .ret E W) : DO D P n .ret Q E W := fun _ a => wp_ret ⟨E, a, h⟩
theorem O0 {co : Operand} {b : Bool} (d : ji E co = .bool b) (i : b = true → DO D P n x Q E W) (g : b = false → DO D P n y Q E W) : DO D P n (.cond co x y) Q E W := fun a c => by
 refine wp_cond_split (t := b) (by rw [c.eval]; exact d) (fun h => i h a c) (fun h => g h a c)
theorem KZ {co : Operand} (a : ji E co = .bool true) (h : DO D P n x Q E W) : DO D P n (.cond co x y) Q E W := O0 a (fun _ => h) (fun h => by cases h)
theorem za {id : Nat} {l : List Oper} (h : Ba D P n l.toArray Q l E W) : DO D P n (.region id l.toArray false) Q E W := fun a c => wp_region_lit (h a c)
theorem CE (h : Q .normal E W) : Ba D P n ops Q [] E W := fun _ a => wpList_nil ⟨E, a, h⟩
theorem lV.Kl {a : Act} (h : lV n ops E o) (d : B1 D n a E) : Region.wanted o (yielded ops a.tmps) = true := by
 rcases h with h | ⟨j, want, t, g, i, k, c⟩
 ·simp [Region.wanted, h]
 ·simp [Region.wanted, g, d.yield i k c]
theorem LC {d : Nat} {v : Value} {W' : World} (hw : lV n ops E o) (g : o.dst = some d) (i : d < n) (j : (execOp (ji E) o).run P W = .ok (.value v) W') (h : Ba D P n ops Q rest (mu E d v) W') : Ba D P n ops Q (o :: rest) E W := fun a c => by
 unfold wpList
 rw [aj (hw.Kl c)]
 refine .inl ?_
 unfold Oper.wp
 rw [c.eval, j, dl, g]
 exact h _ (c.put i v)
theorem N1 {W' : World} (hw : lV n ops E o) (d : o.dst = none) (g : (execOp (ji E) o).run P W = .ok .skip W') (h : Ba D P n ops Q rest E W') : Ba D P n ops Q (o :: rest) E W := fun a c => by
 unfold wpList
 rw [aj (hw.Kl c)]
 refine .inl ?_
 unfold Oper.wp
 rw [c.eval, g, ed, d]
 exact h _ (c.uD _)
theorem N3 {f : FuncId} {args : Array Value} {d : Nat} (hw : lV n ops E o) (i : o.dst = some d) (k : d < n) (m : (execOp (ji E) o).run P W = .ok (.enter f args) W) (h : Calls P f args W fun e g => ∃ v, e = .returned v ∧ Ba D P n ops Q rest (mu E d v) g) : Ba D P n ops Q (o :: rest) E W := fun a c => by
 unfold wpList
 rw [aj (hw.Kl c)]
 refine .inl ?_
 unfold Oper.wp
 rw [c.eval, m, dm]
 refine h.mono ?_
 rintro e g ⟨v, rfl, j⟩
 simp only [i]
 exact j _ (c.put k v)
theorem TN {o : Oper} {dd : Nat} (hw : lV n ops E o) (g : o.dst = some dd) (i : dd < n) (h : mg P E o W fun v W' => Ba D P n ops Q rest (mu E dd v) W') : Ba D P n ops Q (o :: rest) E W := by
 rcases h with ⟨v, W', h1, c⟩ | ⟨W', h1, c⟩ | ⟨f, args, h1, c⟩
 ·exact LC hw g i h1 c
 ·intro a d
  unfold wpList
  rw [aj (hw.Kl d)]
  refine .inl ?_
  unfold Oper.wp
  rw [d.eval, h1, ed, g]
  exact c _ (d.put i _)
 ·exact N3 hw g i h1 c
theorem OO {o : Oper} (hw : lV n ops E o) (g : o.dst = none) (h : mg P E o W fun _ W' => Ba D P n ops Q rest E W') : Ba D P n ops Q (o :: rest) E W := by
 rcases h with ⟨v, W', h1, d⟩ | ⟨W', h1, d⟩ | ⟨f, args, h1, d⟩
 ·intro a c
  unfold wpList
  rw [aj (hw.Kl c)]
  refine .inl ?_
  unfold Oper.wp
  rw [c.eval, h1, dl, g]
  exact d _ (c.uD _)
 ·exact N1 hw g h1 d
 ·intro a c
  unfold wpList
  rw [aj (hw.Kl c)]
  refine .inl ?_
  unfold Oper.wp
  rw [c.eval, h1, dm]
  refine bw d ?_
  rintro e j ⟨v, rfl, i⟩
  simp only [g]
  exact i _ (c.uD _)
theorem zH {dd : Nat} {v : Value} (hw : lV n ops E o) (a : o.dst = some dd) (c : dd < n) (d : kA P E o W v W) (h : Ba D P n ops Q rest (mu E dd v) W) : Ba D P n ops Q (o :: rest) E W := LC hw a c d h
theorem TG (hw : lV n ops E o) (h : Jl P E o W fun c w => ∀ E', (∀ t, E' t = E t) → Q (.panic c) E' w) : Ba D P n ops Q (o :: rest) E W := fun a d => by
 unfold wpList
 rw [aj (hw.Kl d)]
 refine .inl ?_
 unfold Oper.wp
 rw [d.eval]
 rcases h with ⟨v, W', h1, g⟩ | ⟨f, args, h1, g⟩
 ·rw [h1]; exact ⟨d.2.1, d.1, g _ d.2.2⟩
 ·rw [h1, dm]
  refine bw g ?_
  rintro e j ⟨c, rfl, i⟩
  exact ⟨d.2.1, d.1, i _ d.2.2⟩
end
section
variable {P : Program} {n : Nat} {E : Nat → Value} {W : World} {c y : Code} {a : Act} {cs : List Frame} {Q : Exit → Act → List Frame → World → Prop}
theorem SP (h : CW P n c (fun e E W => e = .normal ∧ ∀ a, Ag n a E → y.wpS P Q a cs W) E W) (i : Ag n a E) : (Code.seq c y).wpS P Q a cs W :=
 wpS_seq (wpS_of_wp (eJ (h a i) (fun e g k h => by
  cases e with
  | normal => obtain ⟨E', d, _, j⟩ := h; exact j g d
  | panic c => exact absurd h.2.1 (by simp)
  | outgrown => exact h.elim
  | _ => obtain ⟨E', d, h1, _⟩ := h; cases h1)))
theorem LU {fn : Func} {g : Frame} {j : List Frame} {R : Ending → FrameMode → World → Prop} {u : FrameMode} (k : fn.results = #[]) (h : CW P n c (fun e E W => (e = .normal ∨ e = .ret) ∧ R (.returned (.tuple #[])) u W) E W) (m : Ag n a E) : c.wpS P (bodyPostS P fn g j R) a ({ g with mode := u } :: j) W :=
 wpS_of_wp (eJ (h a m) (fun e o p h => by
  cases e with
  | normal => obtain ⟨E', d, _, i⟩ := h; exact ⟨d.2.1, u, rfl, .tuple #[], results_none k _ _ _, i⟩
  | ret => obtain ⟨E', d, _, i⟩ := h; exact ⟨d.2.1, u, rfl, .tuple #[], results_none k _ _ _, i⟩
  | panic c => rcases h.2.1 with h | h <;> cases h
  | outgrown => exact h.elim
  | _ => obtain ⟨E', d, h1, _⟩ := h; rcases h1 with h | h <;> cases h))
theorem FT {id d d2 : Nat} {c g : Oper} {cs' : List Frame} {v : Value} (p : d < n) (o : d2 < n) (h1 : c.guard = none) (q : g.guard = none) (k : c.dst = some d) (m : g.dst = some d2) (t : ∀ a : Act, (execOp a.eval c).run P W = .ok .recover W) (hm : ∀ E : Nat → Value, E d = v → kA P E g W v W) (j : recoverD cs = some (v, cs') ∨ recoverD cs = none ∧ v = .nilIface ∧ cs' = cs) (i : Ag n a E) (h : ∀ a, Ag n a (mu (mu E d v) d2 v) → Q .normal a cs' W) : (Code.region id #[c, g] false).wpS P Q a cs W := by
 refine wpS_region ?_
 have s : List.range (#[c, g] : Array Oper).size = [0, 1] := rfl
 rw [s]
 have key : ∀ a : Act, Ag n a (mu E d v) → wpOpsS P #[c, g] Q [1] a cs' W := fun a i => by
  unfold wpOpsS
  simp only [show (#[c, g] : Array Oper)[1]? = some g from rfl]
  rw [aj (by simp [Region.wanted, q])]
  have := hm (mu E d v) (by simp [mu])
  unfold kA at this
  rw [i.eval, this]
  simp only [dl, m]
  unfold wpOpsS
  exact h _ (i.put o v)
 unfold wpOpsS
 simp only [show (#[c, g] : Array Oper)[0]? = some c from rfl]
 rw [aj (by simp [Region.wanted, h1]), t]
 simp only
 rcases j with j | ⟨j, rfl, rfl⟩
 ·rw [j]
  simp only [k]
  exact key _ (i.put p v)
 ·rw [j]
  simp only [k]
  exact key _ (i.put p _)
theorem J8 {args : List Value} {fn : Func} {n : Nat} (c : fn.ntmps = n) (h : args.length ≤ n) : Ag n { tmps := args.toArray ++ Array.replicate (fn.ntmps - args.toArray.size) undef, defers := [] } (wk args) := by
 refine ⟨by simp; omega, rfl, fun t => ?_⟩
 simp only [wk, bM, ek, dT, eH, bH, dU]
 by_cases a : t < args.length
 ·rw [aj a]
 ·rw [ai a, bR (by omega)]
  split <;> simp
end
section
variable {P : Program} {E : Nat → Value} {W : World} {d : Option Nat} {x y : Operand} {tx tv ty : TypeId} {pos : String} {af : Array Edge} {g : Option (Nat × Bool)} {ms : List (String × TypeId)}
theorem HO {t tx : TypeId} {q} {v : Value} (dd : Nat) (a : P.underlying tx = some (.interface q)) (W : World) : (Op.equalIn (dd + 1) tx (.iface t v) .nilIface).run P W = .ok false W := by
 simp [Op.equalIn, ar a]
theorem Hq {tx : TypeId} {q} (dd : Nat) (a : P.underlying tx = some (.interface q)) (W : World) : (Op.equalIn (dd + 1) tx .nilIface .nilIface).run P W = .ok true W := by
 simp [Op.equalIn, ar a]
theorem F8 {tx e : TypeId} {k : Nat} {p : Addr} (dd : Nat) (c : P.underlying tx = some (.pointer e)) (a : ∀ w, (sizeOf e).run P w = .ok (k + 1) w) (W : World) : (Op.equalIn (dd + 1) tx (.pointer (some p)) (.pointer (some p))).run P W = .ok true W := by
 simp [Op.equalIn, ar c, a W, run_sameAddr_same]
theorem Ry {q} {t : TypeId} {v : Value} (c : P.underlying tx = some (.interface q)) (h : ji E x = .iface t v) (i : ji E y = .nilIface) : kA P E ⟨d, .binOp .eql tx x y tv, ty, pos, af, g⟩ W (.bool false) W := by
 show (do let r ← (do eqGuard .eql tx x y (ji E x) (ji E y); binOp .eql tx (ji E x) (ji E y)); pure (.value r) : Sem Next).run P W = _
 rw [h, i]
 have a := HO (t := t) (v := v) 9999 c W
 simp [eqGuard, binOp, Op.equal, Op.maxDepth, a]
theorem Q9 {q} {v : Value} (c : P.underlying tx = some (.interface q)) (h : ji E x = .nilIface) (i : ji E (.const v) = .nilIface) : kA P E ⟨d, .binOp .eql tx x (.const v) tv, ty, pos, af, g⟩ W (.bool true) W := by
 show (do let r ← (do eqGuard .eql tx x (.const v) (ji E x) (ji E (.const v)); binOp .eql tx (ji E x) (ji E (.const v))); pure (.value r) : Sem Next).run P W = _
 rw [h, i]
 have a := Hq 9999 c W
 simp [eqGuard, binOp, Op.equal, Op.maxDepth, a]
theorem Ll {e : TypeId} {k : Nat} {p : Addr} (h : P.underlying tx = some (.pointer e)) (c : ∀ w, (sizeOf e).run P w = .ok (k + 1) w) (i : ji E x = .pointer (some p)) (j : ji E y = .pointer (some p)) : kA P E ⟨d, .binOp .neq tx x y tv, ty, pos, af, g⟩ W (.bool false) W := by
 show (do let r ← (do eqGuard .neq tx x y (ji E x) (ji E y); binOp .neq tx (ji E x) (ji E y)); pure (.value r) : Sem Next).run P W = _
 rw [i, j]
 have a := F8 (p := p) 9999 h c W
 simp [eqGuard, binOp, Op.equal, Op.maxDepth, a]
theorem M5 {t : TypeId} {v : Value} {u : TypeDesc} (a : P.underlying t = some u) (hu : ∀ q, u ≠ .interface q) (c : ji E x = .iface t v) : kA P E ⟨d, .typeAssert x tx t true, ty, pos, af, g⟩ W (.tuple #[v, .bool true]) W := by
 show (do let r ← Instr.typeAssert (ji E x) tx t true; pure (.value r) : Sem Next).run P W = _
 rw [c]
 unfold Instr.typeAssert
 simp only [aZ, ar a, aN]
 cases u <;> simp_all
end
def Qx (n : Nat) (Q : List Deferred → mP) (e : Exit) (a : Act) (w : World) : Prop := ∃ D, NH D n (Q D) e a w
def L7 (P : Program) (n : Nat) (c : Code) (Q : List Deferred → mP) (E : Nat → Value) (W : World) : Prop := ∀ a, Ag n a E → c.wp P (Qx n Q) a W
def Qn (P : Program) (n : Nat) (ops : Array Oper) (Q : List Deferred → mP) (l : List Oper) (E : Nat → Value) (W : World) : Prop := ∀ a, Ag n a E → wpList P ops (Qx n Q) l a W
def S5 (P : Program) (fn : Func) (R : Ending → World → Prop) (D : List Deferred) : mP
 | .normal, E, W | .ret, E, W => ∀ tmps : Array Value, (∀ t, tmps.getD t undef = E t) → Leaves P fn tmps R D .returning W
 | .panic c, E, W => ∀ tmps : Array Value, (∀ t, tmps.getD t undef = E t) → Leaves P fn tmps R D (.panicking c) W
 | _, _, _ => False
section
variable {P : Program} {n : Nat} {Q : List Deferred → mP} {E : Nat → Value} {W : World} {c x y : Code} {ops : Array Oper} {rest : List Oper} {o : Oper}
theorem LZ (h : CW P n x (fun e E W => e = .normal ∧ L7 P n y Q E W) E W) : L7 P n (.seq x y) Q E W := fun a i =>
 wp_seq (eJ (h a i) (fun e g k h => by
  cases e with
  | normal => obtain ⟨E', d, _, j⟩ := h; exact j g d
  | panic c => exact absurd h.2.1 (by simp)
  | outgrown => exact h.elim
  | _ => obtain ⟨E', d, h1, _⟩ := h; cases h1))
theorem SJ (h : L7 P n x (fun D => pa (fun E W => DO D P n y (Q D) E W) (Q D)) E W) : L7 P n (.seq x y) Q E W := fun a g =>
 wp_seq (eJ (h a g) (fun e d j ⟨D, h⟩ => by
  cases e with
  | normal => obtain ⟨E', c, i⟩ := h; exact eJ (i d c) (fun e a w h => ⟨D, h⟩)
  | _ => exact ⟨D, h⟩))
theorem Na {id : Nat} {l : List Oper} (h : Qn P n l.toArray Q l E W) : L7 P n (.region id l.toArray false) Q E W := fun a c => wp_region_lit (h a c)
theorem TI {dd : Nat} {v : Value} (hw : lV n ops E o) (g : o.dst = some dd) (i : dd < n) (d : kA P E o W v W) (h : Qn P n ops Q rest (mu E dd v) W) : Qn P n ops Q (o :: rest) E W := fun a c => by
 unfold wpList
 rw [aj (hw.of c)]
 refine .inl ?_
 unfold Oper.wp
 unfold kA at d
 rw [c.eval, d, dl, g]
 exact h _ (c.put i v)
theorem NR {d : Deferred} (hw : lV n ops E o) (g : o.dst = none) (i : (execOp (ji E) o).run P W = .ok (.defer d) W) (h : Q [d] .normal E W) : Qn P n ops Q [o] E W := fun a c => by
 unfold wpList
 rw [aj (hw.of c)]
 refine .inl ?_
 unfold Oper.wp
 rw [c.eval, i, Oper.upon_defer, g]
 exact wpList_nil ⟨[d], E, ⟨c.1, by simp [Act.put, c.2.1], c.2.2⟩, h⟩
theorem KN {f : FuncId} {fn : Func} {c : Code} {args : List Value} {w : World} {R : Ending → World → Prop} (k : P.funcs[f]? = some fn) (j : fn.body = some c) (m : fn.ntmps = n) (i : args.length ≤ n) (h : L7 P n c (fun D => S5 P fn R D) (wk args) w) : Calls P f args.toArray w R := by
 refine calls_of_wp_defers k j (eJ (h _ (J8 m i)) (fun e a o ⟨D, g⟩ => ?_))
 cases e with
 | normal => obtain ⟨E, d, h⟩ := g; show Leaves _ _ _ _ a.defers _ _; rw [d.2.1]; exact h _ d.2.2
 | ret => obtain ⟨E, d, h⟩ := g; show Leaves _ _ _ _ a.defers _ _; rw [d.2.1]; exact h _ d.2.2
 | exit id => obtain ⟨E, d, h⟩ := g; exact h.elim
 | goto l => obtain ⟨E, d, h⟩ := g; exact h.elim
 | panic c => show Leaves _ _ _ _ a.defers _ _; rw [g.1]; exact g.2.2 _ (fun _ => rfl)
 | outgrown => exact g.elim
theorem N8 {d : Option Nat} {ty : TypeId} {pos : String} {af : Array Edge} {g : Option (Nat × Bool)} {f : FuncId} {fv : Operand} {ax : Array Operand} {ats : Array TypeId} {caps : Array Value} {args : List Value} (h : ji E fv = .func (.func f) #[] caps) (c : ax.map (ji E) ++ (#[] : Array Value) = args.toArray) : (execOp (ji E) ⟨d, .defer ⟨.value fv, ax, ats⟩, ty, pos, af, g⟩).run P W = .ok (.defer ⟨.fn (.func f) caps, args.toArray⟩) W := by
 show (do pure (.defer (← resolve (ji E) ⟨.value fv, ax, ats⟩ ty)) : Sem Next).run P W = _
 have a : ax.map (ji E) = args.toArray := by simpa using c
 simp [resolve, Deferred.ofValue, h, a]
theorem JB {fn : Func} {R : Ending → World → Prop} {k : FuncId} {ax : Array Value} {u : FrameMode} {X : World → Prop} (hu : u ≠ .run) (he : ∀ args w, (callFunc k args).run P w = .ok (.enter k args) w) (c : CallsD P k ax u W fun e a W' => e = .returned (.tuple #[]) ∧ settle a = .returning ∧ X W') (h : ∀ W', X W' → wI P fn R .ret E W') (tmps : Array Value) (i : ∀ t, tmps.getD t undef = E t) : Leaves P fn tmps R [⟨.fn (.func k) #[], ax⟩] u W :=
 leaves_cons hu (by simp [invoke, he]) (CallsD.mono c (by
  rintro e a W' ⟨rfl, g, m⟩
  obtain ⟨v, j, d⟩ := h W' m
  show Leaves _ _ _ _ [] (settle a) _
  rw [g]
  exact ⟨v, j _ i, d⟩))
end
theorem rO.form {κ γ : Type} {kenc : κ → Value} {Q : Value → γ → List (Nat × Obj) → Prop} {μ : jF} {v : Value} {l : List (κ × γ)} (h : rO kenc Q μ v l) : ∃ m, v = .map m := by
 obtain ⟨a, R, h, _⟩ := h
 obtain ⟨m, rfl⟩ := h.form
 exact ⟨_, rfl⟩
def QG (dd : Bool) (w : World) (μ0 : jF) (L0 : List (Nat × Obj)) (K : Value → List (Nat × Obj) → jF → Prop) : Ending → World → Prop := fun e a => ∃ v L1 μ1, e = .returned v ∧ qF dd L0 L1 w a ∧ jC μ0 μ1 ∧ Lo (keys L0) w μ0 μ1 ∧ jC μ1 (qH a L1) ∧ K v L1 μ1
theorem Ov {dd : Bool} {P : Program} {f : FuncId} {args : List Value} {w : World} {μ0 : jF} {L0 : List (Nat × Obj)} {K : Value → List (Nat × Obj) → jF → Prop} (h : Calls P f args.toArray w (QG dd w μ0 L0 K)) : nr dd P f args w μ0 L0 K := h
theorem nr.mono {dd : Bool} {P : Program} {f : FuncId} {args : List Value} {w : World} {μ0 : jF} {L0 : List (Nat × Obj)} {K K' : Value → List (Nat × Obj) → jF → Prop} (h : nr dd P f args w μ0 L0 K) (hk : ∀ v L1 μ1, jC μ0 μ1 → K v L1 μ1 → K' v L1 μ1) : nr dd P f args w μ0 L0 K' :=
 bw h fun _ _ ⟨v, L1, μ1, h1, c, a, d, g, i⟩ => ⟨v, L1, μ1, h1, c, a, d, g, hk _ _ _ a i⟩
theorem jQ.mono {R : Type} {dd : Bool} {P : Program} {f : FuncId} {args : List Value} {w : World} {μ0 : jF} {L0 : List (Nat × Obj)} {s : Int ⊕ R} {K K' : R → Value → List (Nat × Obj) → jF → Prop} {X X' : Int → List PanicEntry → List (Nat × Obj) → jF → Prop} (h : jQ dd P f args w μ0 L0 s K X) (hk : ∀ r v L1 μ1, K r v L1 μ1 → K' r v L1 μ1) (k : ∀ x c L1 μ1, X x c L1 μ1 → X' x c L1 μ1) : jQ dd P f args w μ0 L0 s K' X' :=
 bw h fun e m h => by
  cases s with
  | inl x => obtain ⟨v, L1, μ1, h1, a, d, g, i, j⟩ := h; exact ⟨v, L1, μ1, h1, a, d, g, i, k _ _ _ _ j⟩
  | inr r => obtain ⟨v, L1, μ1, h1, a, d, g, i, j⟩ := h; exact ⟨v, L1, μ1, h1, a, d, g, i, hk _ _ _ _ j⟩
def QA {S : Type} (K : S → List (Nat × Obj) → jF → Prop) (X : Int → List (Nat × Obj) → jF → Prop) : Int ⊕ S → List (Nat × Obj) → jF → Prop
 | .inl x => X x
 | .inr r => K r
end Go.Proofs.YtbnbdigcbldfhaaGreat
namespace Go.Proofs.YtbnbdigcbldfhaaGreat
open Go.IntKind renaming wrap → wi0
open Go.Sort Go.Proofs Go.Shelf
theorem zt {g b : Nat} {o : Obj} : keys [(g, o)] b ↔ b = g := by
 constructor
 ·rintro ⟨a, h⟩
  simp at h
  exact h.1
 ·rintro rfl; exact ⟨o, by simp⟩
theorem zA (w : World) (g m : Nat) (f : Array Value → Array Value) (os : Array Obj) (b : Nat) (c : b < w.heap.size) :
  (Go.Sort.grow (mapBlock (Go.Sort.ahead w m) g f) os).heap[b]? = if g = b then w.heap[b]?.map (onCells f) else w.heap[b]? := by
 have a : b < (mapBlock (Go.Sort.ahead w m) g f).heap.size := by simp only [mapBlock, Go.Sort.ahead, Array.size_modify]; exact c
 rw [heap_grow_old _ _ a]
 simp only [mapBlock, Go.Sort.ahead, cL]
theorem B9 {w : World} {g m : Nat} {f : Array Value → Array Value} {os : Array Obj} {cs : Array Value} {T : TypeId} {fr : Nat × Nat} (c : w.heap[g]? = some (.cells cs T fr)) :
  qF true [(g, .cells cs T fr)] [(g, .cells (f cs) T fr)] w (Go.Sort.grow (mapBlock (Go.Sort.ahead w m) g f) os) := by
 have a : g < w.heap.size := (bE.1 c).1
 refine ⟨⟨rfl, rfl, rfl, ?_, ?_, fun b d i => ?_⟩, fun b o h => ?_, by simp⟩
 ·refine sC.of ?_
  show w.drawn ≤ w.drawn + m
  omega
 ·show w.heap.size ≤ (w.heap.modify g (onCells f) ++ os).size
  simp
 ·rw [zA _ _ _ _ _ _ d, ai fun h => i (zt.2 h.symm)]
 ·simp only [aB, bZ, er, Prod.mk.injEq] at h
  obtain ⟨rfl, rfl⟩ := h
  refine ⟨?_, .inr (zt.2 rfl)⟩
  rw [zA _ _ _ _ _ _ a, aj rfl, c]
  rfl
theorem GN {w W : World} (h : Ex true w W) : ∃ q os, W = Go.Sort.grow (w.drewN q) os := by
 refine ⟨W.drawn - w.drawn, W.heap.extract w.heap.size W.heap.size, ?_⟩
 have g : W.heap = w.heap ++ W.heap.extract w.heap.size W.heap.size := by
  apply Array.ext_getElem?
  intro i
  rw [dT]
  split
  ·rename_i hi; exact h.ll i hi
  ·rename_i hi
   rw [Array.getElem?_extract]
   have k := h.size
   split
   ·rw [show w.heap.size + (i - w.heap.size) = i by omega]
   ·exact Array.getElem?_eq_none (by omega)
 obtain ⟨h1, m, n, o, p⟩ := W
 have a := h.os; have c := h.tape; have d := h.output; have j := h.drawn rfl
 simp only at a c d j g
 unfold Go.Sort.grow World.drewN
 simp only [World.mk.injEq]
 exact ⟨g, c, by omega, a, d⟩
theorem LS {α : Type} [Inhabited α] {enc : α → List Value} {k : Nat} (hk : ∀ x, (enc x).length = k) (l : List α) (j : Nat) (a : j < l.length * k) :
  (l.map enc).flatten[j]? = some ((flatK enc k l.toArray)[j]!) := by
 have g : 0 < k := by
  cases k with
  | zero => simp at a
  | succ n => omega
 have h1 : j / k < l.length := (fM g).2 a
 rw [get_flatK _ _ _ _ (by simpa using a)]
 have h : l.toArray[j / k]! = l[j / k] := by
  rw [fx l.toArray (j / k) (by simpa using h1)]; simp
 rw [h]
 have c : j % k < (enc l[j / k]).length := by rw [hk]; exact Nat.mod_lt _ g
 have d := wM hk l (j / k) l[j / k] (bq h1) (j % k) ((enc l[j / k])[j % k]) (bq c)
 rw [Nat.div_add_mod' j k] at d
 rw [d, fx (enc l[j / k]) (j % k) c]
theorem IK {α : Type} [Inhabited α] {enc : α → List Value} {k : Nat} (hk : ∀ x, (enc x).length = k) {w : World} {g : Nat} {cs : Array Value} {T : TypeId} (c : w.heap[g]? = some (.cells cs T (0, 0))) (l : List α)
  (h : cs.toList.take (l.length * k) = (l.map enc).flatten) : HoldsK enc k w g 0 l.toArray := by
 intro j d
 have a : j < l.length * k := by simpa using d
 have h1 := LS hk l j a
 rw [← h, ct, aj a] at h1
 refine ⟨?_, ?_⟩
 ·simp only [World.cell?, c, bW]
  simpa using h1
 ·simp [World.frozen?, c]
theorem Lq {α : Type} [Inhabited α] {enc : α → List Value} {k : Nat} (hk : ∀ x, (enc x).length = k) {cs : Array Value} (l : List α) (c : l.length * k ≤ cs.size) :
  (putCells id 0 (flatK enc k l.toArray) cs).toList.take (l.length * k) = (l.map enc).flatten := by
 apply cz
 intro j
 rw [ct]
 split
 ·rename_i a
  rw [LS hk l j a]
  simp only [putCells, bT, fO, size_flatK, bH]
  rw [dx (by omega)]
  simp [a]
 ·rename_i a
  rw [bR (by rw [nY hk]; omega)]
theorem I5 (enc : Value → Value) (o : Nat) (d c : Array Value) : (putCells enc o d c).size = c.size := by simp [putCells]
section
variable {α : Type} {P : Program} {ρ : Ren}
theorem OG {l : List α} {cf : α × α → Option Int} (h : ED cf l) : SWO (ltOf fun (x y : {x // x ∈ l}) => (cf (x.1, y.1)).getD 0) ∧
  (∀ x y : {x // x ∈ l}, ltOf (fun (x y : {x // x ∈ l}) => (cf (x.1, y.1)).getD 0) x y = rX cf x.1 y.1) := by
 have e : ∀ x y : {x // x ∈ l}, ltOf (fun (x y : {x // x ∈ l}) => (cf (x.1, y.1)).getD 0) x y = rX cf x.1 y.1 := fun x y => by
  obtain ⟨c, i⟩ := h.is x.1 x.2 y.1 y.2
  simp [ltOf, rX, i]
 refine ⟨⟨fun x => ?_, fun x y z => ?_, fun x y z => ?_⟩, e⟩
 ·rw [e]; exact h.irrefl _ x.2
 ·rw [e, e, e]; exact h.trans _ x.2 _ y.2 _ z.2
 ·rw [e, e, e]
  intro h1 d
  cases a : rX cf x.1 z.1 with
  | false => rfl
  | true =>
   cases g : rX cf y.1 x.1 with
   | true =>
    have := h.trans _ y.2 _ x.2 _ z.2 g a
    rw [d] at this; cases this
   | false =>
    have := h.total _ x.2 _ y.2 h1 g
    rw [this, d] at a; cases a
theorem FZ (L : SlLaysF0.n6 P ρ) (k : Nat) (aE : ∀ w, (isAgg (ρ.t 24)).run P w = .ok true w) (zE : ∀ w, (Go.sizeOf (ρ.t 24)).run P w = .ok k w) {e : TypeId} (enc : α → List Value) (hk : ∀ x, (enc x).length = k) (h1 : ∀ x, ∀ u ∈ enc x, u.oneCell' = true) {v fv : Value} {l r : List α} {R : List (Nat × Obj)} {cf : α × α → Option Int} {w : World} {μ0 : jF} (hH : Cs (R ++ []) w) (A : jC μ0 (qH w (R ++ []))) (W : jy e enc k v l R) (hc : FR P fv μ0 (fun (x : α × α) => [(.agg (enc x.1).toArray), (.agg (enc x.2).toArray)]) (fun (r : Int) => (.int .i64 r)) cf) (hm : w8 cf l = some r) :
  ki true P (ρ.f 6) [v, fv] w (R ++ []) (fun u L1 _ => ∃ (S : List (Nat × Obj)), u = (.tuple #[]) ∧ L1 = (S ++ []) ∧ jy e enc k v r S) := by
 obtain ⟨ok, rfl⟩ := AJ hm
 rw [bp] at hH A ⊢
 rcases cH l.length with h0 | i
 ·have hl : l = [] := aX h0
  subst hl
  have Y : oY cf ([] : List α) = [] := by simp [oY]
  rw [Y]
  obtain ⟨p, c, rfl⟩ : ∃ p c, v = .slice p 0 c := by
   rcases W with ⟨rfl, _, _⟩ | ⟨g, cap, j, rfl, _⟩
   ·exact ⟨_, _, rfl⟩
   ·exact ⟨_, _, rfl⟩
  refine bw (AnyF.slices_SortFunc_none L p c fv w) fun x w' ⟨hx, hw⟩ => ?_
  subst hx hw
  refine ⟨_, R, rfl, ⟨⟨rfl, rfl, rfl, sC.of (aM _), aM _, fun _ _ _ => rfl⟩, fun b o h => ⟨hH b o h, .inr ⟨o, h⟩⟩, ?_⟩, R, rfl, (bp R).symm, W⟩
  rcases W with ⟨_, _, rfl⟩ | ⟨g, cap, j, _, rfl, _⟩ <;> simp
 ·rcases W with ⟨_, rfl, _⟩ | ⟨g, cap, j, rfl, rfl, a7, a6, J, af⟩
  ·simp at i
  have hg : w.heap[g]? = some (.cells j e (0, 0)) := hH g _ (by simp)
  have a8 : g < w.heap.size := (bE.1 hg).1
  haveI : Inhabited {x // x ∈ l} := ⟨⟨l[0], du i⟩⟩
  obtain ⟨gg, caps, rfl, M, q⟩ := hc
  obtain ⟨hO, O⟩ := OG ok
  have D : l.attach.toArray.size = l.length := by simp
  have ab : l.attach.map (fun x => enc x.1) = l.map enc := by
   rw [show (fun x : {x // x ∈ l} => enc x.1) = enc ∘ Subtype.val from rfl, ← cW, List.attach_map_subtype_val]
  have Z : HoldsK (fun x : {x // x ∈ l} => enc x.1) k w g 0 l.attach.toArray := IK (fun x => hk x.1) hg l.attach (by rw [ab, List.length_attach, af])
  have I : CmpLays P gg caps (fun x : {x // x ∈ l} => enc x.1) k (fun x y => (cf (x.1, y.1)).getD 0) g 0 l.attach.toArray.size w := by
   intro m os dk av x y
   obtain ⟨c, G⟩ := ok.is x.1 x.2 y.1 y.2
   have U : jC μ0 (hp (sortWorldK (fun x : {x // x ∈ l} => enc x.1) k w g 0 m dk os)) := fun b o hb => by
    have z := A b o hb
    unfold qH at z
    split at z
    ·cases z
    ·rename_i hn
     have a1 : b < w.heap.size := (bE.1 z).1
     show (Go.Sort.grow (mapBlock (Go.Sort.ahead w m) g _) os).heap[b]? = _
     rw [zA _ _ _ _ _ _ a1, ai fun h => hn (zt.2 h.symm)]
     exact z
   have h3 := q (sortWorldK (fun x : {x // x ∈ l} => enc x.1) k w g 0 m dk os) (x.1, y.1) c U G
   have ea : ([Value.agg (enc x.1).toArray, Value.agg (enc y.1).toArray] ++ caps.toList).toArray = #[Value.agg (enc x.1).toArray, Value.agg (enc y.1).toArray] ++ caps := by
    apply Array.ext'; simp
   rw [← ea]
   exact bw h3 fun u W' hu => ⟨by rw [hu.1]; show _ = Ending.returned (.int .i64 ((cf (x.1, y.1)).getD 0)); rw [G]; rfl, GN hu.2⟩
  have hT : ∀ x y : {x // x ∈ l}, ltOf (fun (x y : {x // x ∈ l}) => (cf (x.1, y.1)).getD 0) x y = false → ltOf (fun (x y : {x // x ∈ l}) => (cf (x.1, y.1)).getD 0) y x = false → x = y := fun x y a b => by
   rw [O] at a b
   exact Subtype.ext (ok.total _ x.2 _ y.2 a b)
  have d := AnyQ.slices_SortFunc_total L k aE zE (fun x : {x // x ∈ l} => enc x.1) (fun x => hk x.1) (fun x => h1 x.1) (fun x y => (cf (x.1, y.1)).getD 0) hO gg caps g 0 cap l.attach.toArray w M I Z a8 (by rw [D]; exact ok.short) hT
  rw [D] at d
  refine bw d fun u w' ⟨hu, n, os, hw⟩ => ?_
  subst hu
  generalize Y : l.attach.toArray.toList.mergeSort (fun x y => !ltOf (fun (x y : {x // x ∈ l}) => (cf (x.1, y.1)).getD 0) y x) = s at hw
  have ad : s.map Subtype.val = oY cf l := by
   rw [← Y, eQ (s := fun x y => !rX cf y x) (fun a _ b _ => by rw [O])]
   simp [oY]
  have T : s.length = l.length := by rw [← Y, dW]; simp
  have Q : (oY cf l).length = l.length := by simp [oY, dW]
  have F := B9 (w := w) (m := n) (f := putCells id 0 (flatK (fun x : {x // x ∈ l} => enc x.1) k s.toArray)) (os := os) hg
  have ao : w' = Go.Sort.grow (mapBlock (Go.Sort.ahead w n) g (putCells id 0 (flatK (fun x : {x // x ∈ l} => enc x.1) k s.toArray))) os := hw
  rw [← ao] at F
  refine ⟨_, _, rfl, F, _, rfl, (bp _).symm, .inr ⟨g, cap, _, by rw [Q], rfl, by omega, a6, by rw [I5, J], ?_⟩⟩
  rw [Q, ← T, Lq (fun x => hk x.1) s (by rw [T, J]; exact bd k a7), ← ad, cW]
  rfl
end
end Go.Proofs.YtbnbdigcbldfhaaGreat
namespace Go.Proofs.YtbnbdigcbldfhaaGreat
open Go.IntKind renaming wrap → wi0
open Go.Sort Go.Proofs Go.Shelf Go.RowKit
def uW (c : rD 1) : Value := c.1.headD undef
theorem Fl (c : rD 1) : c.1 = [uW c] := by
 obtain ⟨l, h, d⟩ := c
 match l, h with
 | [a], _ => rfl
theorem Po (c : rD 1) : (uW c).oneCell' = true := c.2.2 _ (by rw [Fl c]; simp)
theorem NJ : ∀ cl : List (rD 1), (cl.map uy).flatten = cl.map uW
 | [] => rfl
 | c :: cl => by rw [aQ, cy, NJ cl, show uy c = [uW c] from Fl c]; rfl
theorem Pu {α β : Type} {Q : α → β → Prop} {cl : List α} {l : List β} (h : pf Q cl l) : ∀ (i : Nat) (x : β), l[i]? = some x → ∃ c, cl[i]? = some c ∧ Q c x := by
 induction h with
 | nil => intro i x a; simp at a
 | cons g _ ih =>
  intro i x a
  cases i with
  | zero => simp at a; subst a; exact ⟨_, by simp, g⟩
  | succ i => simp at a; obtain ⟨c, h1, d⟩ := ih i x a; exact ⟨c, by simpa using h1, d⟩
theorem Jq {α β γ : Type} {Q : α → β → Prop} {f : γ → α} {g : γ → β} : ∀ s : List γ, (∀ x ∈ s, Q (f x) (g x)) → pf Q (s.map f) (s.map g)
 | [], _ => .nil
 | x :: s, h => .cons (h x (by simp)) (Jq s (fun y a => h y (by simp [a])))
theorem Sw {β : Type} {Q : rD 1 → β → Prop} {cl : List (rD 1)} {l : List β} (h : pf Q cl l) (p : l.Nodup) : ∃ enc : {x // x ∈ l} → rD 1, l.attach.map enc = cl ∧ ∀ x, Q (enc x) x.1 := by
 have d : ∀ x : {x // x ∈ l}, ∃ (i : Nat) (c : rD 1), l[i]? = some x.1 ∧ cl[i]? = some c ∧ Q c x.1 := fun x => by
  obtain ⟨i, hi⟩ := List.getElem?_of_mem x.2
  obtain ⟨c, h1, o⟩ := Pu h i _ hi
  exact ⟨i, c, hi, h1, o⟩
 refine ⟨fun x => (d x).choose_spec.choose, ?_, fun x => (d x).choose_spec.choose_spec.2.2⟩
 apply cz
 intro i
 rw [cg]
 by_cases hi : i < l.length
 ·have n : l.attach[i]? = some ⟨l[i], du hi⟩ := by
   rw [bq (by simpa using hi)]; simp
  rw [n, cv]
  have q := (d ⟨l[i], du hi⟩).choose_spec.choose_spec
  generalize (d ⟨l[i], du hi⟩).choose_spec.choose = c at *
  generalize (d ⟨l[i], du hi⟩).choose = j at *
  obtain ⟨m, a2, _⟩ := q
  obtain ⟨k, g⟩ := aH.1 m
  have : j = i := by
   have hp := List.pairwise_iff_getElem.1 p
   rcases Nat.lt_trichotomy j i with a | a | a
   ·exact absurd g (hp j i k hi a)
   ·exact a
   ·exact absurd g.symm (hp i j hi k a)
  rw [← this, a2]
 ·rw [bR (by simpa using hi), bR (by rw [h.length]; omega)]; rfl
theorem Kd {α : Type} [Inhabited α] {enc : α → Value} {cs : Array Value} (l : List α) (c : l.length ≤ cs.size) :
  (putCells enc 0 l.toArray cs).toList.take l.length = l.map enc := by
 apply cz
 intro j
 rw [ct, cg]
 split
 ·rename_i a
  simp only [putCells, bT, fO, bH]
  rw [dx (by omega)]
  simp [a]
 ·rename_i a
  rw [bR (by omega)]; rfl
section
variable {P : Program} {ρ : Ren} {β : Type} {Rl : qa β}
theorem Lt (L : SlLaysF.n6 P ρ) (hD : Deep Rl 1) {e : TypeId} {v fv : Value} {l r : List β} {R : List (Nat × Obj)} {cf : β × β → Option Int} {w : World} {μ0 : jF} (h0 : na μ0 (R ++ []) w) (hr : ol e Rl 1 μ0 v l R) (hc : TO P fv μ0 Rl cf) (hm : FA cf l = some r) :
  nr true P (ρ.f 6) [v, fv] w μ0 (R ++ []) (fun u L1 μ1 => ∃ (S : List (Nat × Obj)), u = (.tuple #[]) ∧ L1 = (S ++ []) ∧ ol e Rl 1 μ1 v r S) := by
 unfold FA at hm
 have hn : l.Nodup := dy fun h => by rw [ai h] at hm; cases hm
 rw [aj hn] at hm
 obtain ⟨ok, rfl⟩ := AJ hm
 have hH := h0.H
 have D := h0.S
 obtain ⟨cl, d, k⟩ := hr
 have hlen := k.length
 rw [bp] at hH D ⊢
 rcases cH l.length with hz | Y
 ·have hl : l = [] := aX hz
  subst hl
  have a7 : cl = [] := aX (by simpa using hlen)
  subst a7
  have hs : oY cf ([] : List β) = [] := by simp [oY]
  rw [hs]
  obtain ⟨p, c, rfl⟩ : ∃ p c, v = .slice p 0 c := by
   rcases d with ⟨rfl, _, _⟩ | ⟨g, cap, i, rfl, _⟩
   ·exact ⟨_, _, rfl⟩
   ·exact ⟨_, _, rfl⟩
  refine bw (AnyF.slices_SortFunc_none (P := P) (ρ := ρ) { L with } p c fv w) fun x w' ⟨hx, hw⟩ => ?_
  subst hx hw
  refine ⟨_, R, μ0, rfl, ⟨⟨rfl, rfl, rfl, sC.of (aM _), aM _, fun _ _ _ => rfl⟩, fun b o h => ⟨hH b o h, .inr ⟨o, h⟩⟩, ?_⟩, jC.refl _, Lo.refl, D, R, rfl, (bp R).symm, [], d, k⟩
  rcases d with ⟨_, _, rfl⟩ | ⟨g, cap, i, _, rfl, _⟩ <;> simp
 ·rcases d with ⟨_, rfl, _⟩ | ⟨g, cap, i, rfl, rfl, ad, a8, ab, I⟩
  ·simp at hlen; omega
  rw [hlen] at ad I
  rw [NJ, Nat.mul_one] at I
  rw [Nat.mul_one] at ab
  have hg : w.heap[g]? = some (.cells i e (0, 0)) := hH g _ (by simp)
  have af : g < w.heap.size := (bE.1 hg).1
  haveI : Inhabited {x // x ∈ l} := ⟨⟨l[0], du Y⟩⟩
  obtain ⟨enc, he, hq⟩ := Sw k hn
  obtain ⟨gg, caps, rfl, U, F⟩ := hc
  obtain ⟨hO, W⟩ := OG ok
  have M : l.attach.toArray.size = l.length := by simp
  have Z : cl.map uW = l.attach.map (fun x => uW (enc x)) := by rw [← he, cW]; rfl
  have a1 : Holds (fun x : {x // x ∈ l} => uW (enc x)) w g 0 l.attach.toArray := by
   intro j hj
   have G : j < l.length := by simpa using hj
   have e1 : i[j]? = some (uW (enc l.attach.toArray[j]!)) := by
    have h1 : (i.toList.take l.length)[j]? = i[j]? := by rw [ct, aj G]; simp
    rw [← h1, I, Z, cg, bq (by simpa using G), cv]
    rw [fx l.attach.toArray j (by simpa using G)]; simp
   refine ⟨?_, ?_⟩
   ·simp only [World.cell?, hg, bW]
    simpa using e1
   ·simp [World.frozen?, hg]
  have z : ∀ (m : Nat) (os : Array Obj) (J : Array {x // x ∈ l}), jC μ0 (hp (sortWorld (fun x : {x // x ∈ l} => uW (enc x)) w g 0 m J os)) := fun m os J b o hb => by
   have A := D b o hb
   unfold qH at A
   split at A
   ·cases A
   ·rename_i hn
    have a6 : b < w.heap.size := (bE.1 A).1
    show (Go.Sort.grow (mapBlock (Go.Sort.ahead w m) g _) os).heap[b]? = _
    rw [zA _ _ _ _ _ _ a6, ai fun h => hn (zt.2 h.symm)]
    exact A
  have T : CmpLays1 P gg caps (fun x : {x // x ∈ l} => uW (enc x)) (fun x y => (cf (x.1, y.1)).getD 0) g 0 l.attach.toArray.size w := by
   intro m os J b1 x y
   obtain ⟨c, Q⟩ := ok.is x.1 x.2 y.1 y.2
   have t := z m os J
   have h3 := F (sortWorld (fun x : {x // x ∈ l} => uW (enc x)) w g 0 m J os) (x.1, y.1) (uW (enc x)) (uW (enc y)) c t (by rw [← Fl]; exact hD.mono _ _ _ _ t (hq x)) (by rw [← Fl]; exact hD.mono _ _ _ _ t (hq y)) Q
   have ea : ([uW (enc x), uW (enc y)] ++ caps.toList).toArray = #[uW (enc x), uW (enc y)] ++ caps := by
    apply Array.ext'; simp
   rw [← ea]
   exact bw h3 fun u W' hu => ⟨by rw [hu.1]; show _ = Ending.returned (.int .i64 ((cf (x.1, y.1)).getD 0)); rw [Q]; rfl, GN hu.2⟩
  have hT : ∀ x y : {x // x ∈ l}, ltOf (fun (x y : {x // x ∈ l}) => (cf (x.1, y.1)).getD 0) x y = false → ltOf (fun (x y : {x // x ∈ l}) => (cf (x.1, y.1)).getD 0) y x = false → x = y := fun x y a b => by
   rw [W] at a b
   exact Subtype.ext (ok.total _ x.2 _ y.2 a b)
  have q := Any.slices_SortFunc_total L (fun x : {x // x ∈ l} => uW (enc x)) (fun x => Po _) (fun x y => (cf (x.1, y.1)).getD 0) hO gg caps g 0 cap l.attach.toArray w U T a1 af (by rw [M]; exact ok.short) hT
  rw [M] at q
  rw [hlen]
  refine bw q fun u w' ⟨hu, n, os, hw⟩ => ?_
  subst hu
  generalize hs : l.attach.toArray.toList.mergeSort (fun x y => !ltOf (fun (x y : {x // x ∈ l}) => (cf (x.1, y.1)).getD 0) y x) = s at hw
  have aE : s.map Subtype.val = oY cf l := by
   rw [← hs, eQ (s := fun x y => !rX cf y x) (fun a _ b _ => by rw [W])]
   simp [oY]
  have av : s.length = l.length := by rw [← hs, dW]; simp
  have O := B9 (w := w) (m := n) (f := putCells (fun x : {x // x ∈ l} => uW (enc x)) 0 s.toArray) (os := os) hg
  have b0 : w' = Go.Sort.grow (mapBlock (Go.Sort.ahead w n) g (putCells (fun x : {x // x ∈ l} => uW (enc x)) 0 s.toArray)) os := hw
  rw [← b0] at O
  refine ⟨_, _, μ0, rfl, O, jC.refl _, Lo.refl, ?_, _, rfl, (bp _).symm, s.map enc, .inr ⟨g, cap, _, by rw [cP, av], rfl, by rw [cP]; omega, a8, by simp [putCells]; omega, ?_⟩, ?_⟩
  ·intro b o hb
   have A := D b o hb
   unfold qH at A ⊢
   split at A
   ·cases A
   ·rename_i ao
    rw [ai (fun h => ao (zt.2 (zt.1 h)))]
    have := z n os s.toArray b o hb
    rw [hw]; exact this
  ·rw [cP, Nat.mul_one, NJ, cW]
   exact Kd s (by omega)
  ·rw [← aE]
   exact Jq s (fun x _ => hq x)
end
end Go.Proofs.YtbnbdigcbldfhaaGreat
namespace Go.Proofs.YtbnbdigcbldfhaaGreat
open Go.IntKind renaming wrap → wi0
open Go.Sort Go.Proofs Go.Shelf
theorem EO (b : ByteArray) : b.toList = b.data.toList := by rw [dJ]
theorem Jf (l : List ByteArray) : (l.map mL).flatten = l.map Value.string := by
 induction l with
 | nil => rfl
 | cons x l ih => simp only [aQ, cy, ih]; rfl
theorem Jo (l : List ByteArray) : (np l).map (fun b => b.data.toList) = (l.map (fun b => b.data.toList)).mergeSort (fun x y => decide (x ≤ y)) := by
 unfold np
 refine eQ fun a _ b _ => ?_
 unfold oQ
 rw [bytesLess_eq, EO, EO]
 by_cases h : a.data.toList ≤ b.data.toList
 ·have c : ¬ b.data.toList < a.data.toList := List.not_lt.2 h
  simp [h, c]
 ·have c : b.data.toList < a.data.toList := by
   cases Decidable.em (b.data.toList < a.data.toList) with
   | inl d => exact d
   | inr d => exact absurd (List.not_lt.1 d) h
  simp [h, c]
section
variable {P : Program} {ρ : Ren}
theorem Ld (L : SlLaysM.n6 P ρ) {e : TypeId} {v : Value} {l r : List ByteArray} {R : List (Nat × Obj)} {w : World} (hH : Cs (R ++ []) w) (A : jy e mL 1 v l R) (hm : Fk l = some r) :
  ki true P (ρ.f 6) [v] w (R ++ []) (fun u L1 _ => ∃ (S : List (Nat × Obj)), u = (.tuple #[]) ∧ L1 = (S ++ []) ∧ jy e mL 1 v r S) := by
 unfold Fk at hm
 split at hm
 ·rename_i k
  cases hm
  rw [bp] at hH ⊢
  rcases cH l.length with Q | s
  ·have W : l = [] := aX Q
   subst W
   have Z : np [] = [] := by simp [np]
   rw [Z]
   obtain ⟨p, c, rfl⟩ : ∃ p c, v = .slice p 0 c := by
    rcases A with ⟨rfl, _, _⟩ | ⟨g, cap, d, rfl, _⟩
    ·exact ⟨_, _, rfl⟩
    ·exact ⟨_, _, rfl⟩
   refine bw (AnyM.slices_Sort_string_none L p c w) fun x O ⟨hx, hw⟩ => ?_
   subst hx hw
   refine ⟨_, R, rfl, ⟨⟨rfl, rfl, rfl, sC.of (aM _), aM _, fun _ _ _ => rfl⟩, fun b o h => ⟨hH b o h, .inr ⟨o, h⟩⟩, ?_⟩, R, rfl, (bp R).symm, A⟩
   rcases A with ⟨_, _, rfl⟩ | ⟨g, cap, d, _, rfl, _⟩ <;> simp
  ·rcases A with ⟨_, rfl, _⟩ | ⟨g, cap, d, rfl, rfl, Y, F, G, J⟩
   ·simp at s
   have y : w.heap[g]? = some (.cells d e (0, 0)) := hH g _ (by simp)
   have I : g < w.heap.size := (bE.1 y).1
   have D : Holds encStr w g 0 (l.map (fun b => b.data.toList)).toArray := by
    intro j z
    have i : j < l.length := by simpa using z
    have h1 : (d.toList.take (l.length * 1))[j]? = ((l.map mL).flatten)[j]? := by rw [J]
    rw [Jf, ct, aj (by omega), cg, bq i] at h1
    refine ⟨?_, by simp [World.frozen?, y]⟩
    simp only [World.cell?, y, bW]
    rw [fx _ j z]
    simpa using h1
   have a := AnyM.slices_Sort_string L g 0 cap (l.map (fun b => b.data.toList)) w D I (by simpa using k)
   rw [cP, ← Jo] at a
   refine bw a fun u O ⟨hu, n, os, hw⟩ => ?_
   subst hu
   have t : (np l).length = l.length := by simp [np, dW]
   have q := B9 (w := w) (m := n) (f := putCells encStr 0 ((np l).map (fun b => b.data.toList)).toArray) (os := os) y
   have M : O = Go.Sort.grow (mapBlock (Go.Sort.ahead w n) g (putCells encStr 0 ((np l).map (fun b => b.data.toList)).toArray)) os := hw
   rw [← M] at q
   refine ⟨_, _, rfl, q, _, rfl, (bp _).symm, .inr ⟨g, cap, _, by rw [t], rfl, by omega, F, by simpa [putCells] using G, ?_⟩⟩
   rw [t, Jf]
   apply cz
   intro j
   rw [ct]
   split
   ·rename_i z
    have i : j < (np l).length := by omega
    rw [cg, bq i]
    simp only [putCells, bT, fO]
    rw [dx (by omega)]
    have T : j < ((np l).map (fun b => b.data.toList)).toArray.size := by simpa using i
    have U : 0 ≤ j ∧ j < 0 + ((np l).map (fun b => b.data.toList)).toArray.size := ⟨by omega, by omega⟩
    simp only [cv, aj U, Nat.sub_zero]
    rw [fx _ j T]
    simp
   ·rename_i z
    rw [bR (by simp; omega)]
 ·cases hm
end
end Go.Proofs.YtbnbdigcbldfhaaGreat
namespace Go.Proofs.YtbnbdigcbldfhaaGreat
open Go.IntKind renaming wrap → wi0
open Go.WideElems Go.WideShapes Go.Sort Go.Proofs Go.Shelf
theorem Lj {β : Type} {vf : β → Value} {P : Program} {kt : TypeId} (z : P.underlying kt = some .string) {l : List (ByteArray × β)} {es : Array MapEntry} {clock : Nat} (h : uK Value.string vf l es clock) (w : (l.map (·.1)).Nodup) (y : ∀ p ∈ l, p.1.size ≤ maxLen) (u : l.length ≤ maxLen) {W : World} {b : Nat} (t : W.heap[b]? = some (.map es clock)) : ∃ D : DataW Unit, W.ownsMap P kt (fun _ => some (.lit (.bool true), [])) b es.size D ∧ (strKeys D).Perm (l.map (fun p => p.1.data.toList)) ∧ Maps.size D = l.length := by
 have c := h.keys
 have m : ∀ x ∈ es.toList, ∃ s : ByteArray, x.key = .string s ∧ s.size ≤ maxLen := fun x i => by
  have h1 : x.key ∈ es.toList.map (·.key) := aR.2 ⟨x, i, rfl⟩
  rw [c] at h1
  obtain ⟨s, g, j⟩ := aR.1 h1
  obtain ⟨p, o, q⟩ := aR.1 g
  exact ⟨s, j.symm, by rw [← q]; exact y p o⟩
 have d : ∀ x ∈ es.toList, ∃ s : ByteArray, x.key = .string s ∧ Go.WideElems.rd (H := Unit) P kt (fun _ => some (.lit (.bool true), [])) x = some (.string s.data.toList, .lit (.bool true)) := fun x i => by
  obtain ⟨s, h1, g⟩ := m x i
  refine ⟨s, h1, ?_⟩
  simp [Go.WideElems.rd, keyOf, z, mapKey, h1, g]
 refine ⟨_, ⟨es, clock, t, ⟨by rw [h.length]; exact u, ⟨h.lt, ?_, ?_⟩, fun x i => ?_⟩, aM _, rfl⟩, ?_, ?_⟩
 ·have := h.born
  rw [List.Nodup, dX]
  exact this.imp (fun {a b} h => by omega)
 ·rw [c]
  rw [List.Nodup, dX]
  exact w.imp (fun {a b} k e => k (by injection e))
 ·obtain ⟨s, _, g⟩ := d x i
  exact ⟨_, g⟩
 ·have h1 := (sorted_perm (es.toList.map (Go.WideElems.rg (H := Unit) P kt (fun _ => some (.lit (.bool true), []))))).map (fun p => strOf p.1)
  refine List.Perm.trans h1 ?_
  have e : (es.toList.map (Go.WideElems.rg (H := Unit) P kt (fun _ => some (.lit (.bool true), [])))).map (fun p => strOf p.1) = l.map (fun p => p.1.data.toList) := by
   have n : (es.toList.map (Go.WideElems.rg (H := Unit) P kt (fun _ => some (.lit (.bool true), [])))).map (fun p => strOf p.1) = (es.toList.map (·.key)).map (fun v => match v with | .string s => s.data.toList | _ => []) := by
    rw [cW, cW]
    refine List.map_congr_left fun x i => ?_
    obtain ⟨s, g, j⟩ := d x i
    simp [Go.WideElems.rg, j, g, strOf]
   rw [n, c, cW, cW]
   rfl
  rw [e]
 ·have h1 := (sorted_perm (es.toList.map (Go.WideElems.rg (H := Unit) P kt (fun _ => some (.lit (.bool true), []))))).length_eq
  show (List.foldr DataW.insert [] _).length = _
  rw [h1, cP, ← h.length]
  simp
theorem IV {l : List ByteArray} {g : List (List UInt8)} (h : g.Perm (l.map fun b => b.data.toList)) : g.mergeSort (fun x y => decide (x ≤ y)) = (np l).map (fun b => b.data.toList) := by
 rw [Jo]
 have le : ∀ a b c : List UInt8, decide (a ≤ b) = true → decide (b ≤ c) = true → decide (a ≤ c) = true := fun a b c h1 d => by
  simp only [bk] at *
  exact List.le_trans h1 d
 have tot : ∀ a b : List UInt8, (decide (a ≤ b) || decide (b ≤ a)) = true := fun a b => by
  simp only [dz, bk]
  exact List.le_total a b
 refine List.Perm.eq_of_pairwise (le := fun a b => decide (a ≤ b) = true) (fun a b _ _ h1 d => List.le_antisymm (by simpa using h1) (by simpa using d)) (fi le tot _) (fi le tot _) ?_
 exact (gp _ _).trans (h.trans (gp _ _).symm)
section
variable {P : Program} {ρk ρt ρm : Ren}
theorem La (LK : SlLaysZ.n7 P ρk) (LT : SlLaysZ.n6 P ρt) (LM : SlLaysM.n6 P ρm) (h9 : ρt.f 9 = ρm.f 6) (hK : P.underlying (ρk.t 26) = some .string) (eg : ∀ args w, (callFunc (ρk.f 10) args).run P w = .ok (.enter (ρk.f 10) args) w) (es : ∀ args w, (callFunc (ρt.f 9) args).run P w = .ok (.enter (ρt.f 9) args) w) {β : Type} {vf : β → Value} {l : List (ByteArray × β)} {b : Nat} {mv : Value} {t : TypeId} {W : World} {r : List ByteArray} (u : W.heap[b]? = some (.cells #[mv] t (0, 0))) (hm : uN Value.string vf (hp W) mv l) (hk : GL l = some r) :
  kw false P (ρt.f 6) [.func (.func (ρk.f 10)) #[] #[.pointer (some ⟨b, 0, none⟩)]] W (ρt.t 26) mL 1 r := by
 unfold GL at hk
 split at hk
 case isFalse => cases hk
 rename_i hc
 obtain ⟨T, U, Y⟩ := hc
 cases hk
 have i : b < W.heap.size := (bE.1 u).1
 have c : W.cell? ⟨b, 0, none⟩ = some mv := by simp [World.cell?, u]
 have q : AnyZ.SortsIn P ρt Fence.wide 4 :=
  ⟨fun M off cap d W hH hblk s => callsIn_wide.2 (by rw [h9]; exact AnyM.slices_Sort_string LM M off cap d W hH hblk s), fun p cap W => callsIn_wide.2 (by rw [h9]; exact AnyM.slices_Sort_string_none LM p cap W)⟩
 have I : SeqGives Fence.wide 2 P (ρk.f 10) #[.pointer (some ⟨b, 0, none⟩)] encStr (fun d => d.Perm ((l.map (·.1)).map fun b => b.data.toList)) l.length W := by
  rcases hm with ⟨rfl, rfl⟩ | ⟨m, es, clock, rfl, a6, A⟩
  ·have := AnyZ.keys_gives_nil (ρ := ρk) { LK with } Fence.wide 2 trivial rfl b W i c
   intro l' J W' Q O R L
   refine CallsIn.mono (this l' J W' Q O R L) ?_
   rintro e w' ⟨hv, d, rfl, hj⟩
   exact ⟨hv, [], cX _, hj⟩
  ·obtain ⟨D, F, n, s⟩ := Lj hK A T U (by unfold maxLen; omega) a6
   have := AnyZ.keys_gives (ρ := ρk) { LK with } Fence.wide 2 trivial rfl (by omega) b m es.size D W i c F
   intro l' J W' Q O R L
   refine CallsIn.mono (this l' J W' Q O (by rw [s]; exact R) L) ?_
   rintro e w' ⟨hv, d, hp, hj⟩
   refine ⟨hv, d, ?_, hj⟩
   rw [cW]
   exact hp.trans n
 have cS := AnyZ.sorted_in LT Fence.wide 5 trivial trivial trivial trivial rfl (by omega) q es (ρk.f 10) #[.pointer (some ⟨b, 0, none⟩)] trivial eg _ l.length (by unfold maxLen; omega) Y W I
 refine bw (callsIn_wide.1 cS) ?_
 rintro e w' ⟨v, d, rfl, hS, G, a8, a⟩
 have hs := IV hS
 have hlen : d.length = (np (l.map (·.1))).length := by
  have := ay List.length hs
  simpa using this
 have k : (d.mergeSort (fun x y => decide (x ≤ y))).map encStr = ((np (l.map (·.1))).map mL).flatten := by
  rw [hs, Jf, cW]
  refine List.map_congr_left (fun x _ => ?_)
  simp only [Function.comp, encStr]
 rcases G.2 with ⟨rfl, L⟩ | ⟨g, cap, z, rfl, j, hg, ab, Z, a1, a7⟩
 ·have : np (l.map (·.1)) = [] := aX (by omega)
  rw [this]
  exact ⟨_, [], rfl, qF.I8 ⟨a.os, a.tape, a.output, fun h => (by cases h), a.size, fun b u => a.block b u⟩ (fun _ _ h => by cases h) (by simp), jy.nil _ _ _⟩
 ·refine ⟨_, [(g, .cells z (ρt.t 26) (0, 0))], rfl, qF.I8 ⟨a.os, a.tape, a.output, fun h => (by cases h), a.size, fun b u => a.block b u⟩ (fun b o h => by simp at h; obtain ⟨rfl, rfl⟩ := h; exact ⟨hg, j⟩) (by simp), .inr ⟨g, cap, z, by rw [hlen], rfl, by omega, Z, a1, ?_⟩⟩
  rw [← hlen, a7, k]
end
end Go.Proofs.YtbnbdigcbldfhaaGreat
namespace Go.Proofs.YtbnbdigcbldfhaaGreat
open Go.IntKind renaming wrap → wi0
def dv := @Tryz.underlying9
def dA := @Tryz.zeroValue9
def dL := @Tryz.underlying0
def dQ := @Tryz.zeroValue0
def ey := @Tryz.underlying4
def ez := @Tryz.sizeOf9
def eK := @Tryz.zeroValue4
def eS := @Tryz.underlying215
def eT := @Tryz.underlying261
def eU := @Tryz.underlying262
def eV := @Tryz.underlying268
def eW := @Tryz.underlying270
def eX := @Tryz.underlying291
def eY := @Tryz.underlying295
def eZ := @Tryz.underlying315
def fa := @Tryz.underlying142
def fj := @Tryz.isAgg9
def fy := @Tryz.sizeOf0
def fz := @Tryz.zeroValue215
def fA := @Tryz.zeroValue261
def fB := @Tryz.zeroValue262
def fC := @Tryz.underlying39
def fD := @Tryz.zeroValue268
def fE := @Tryz.zeroValue270
def fF := @Tryz.zeroValue291
def fG := @Tryz.zeroValue295
def fH := @Tryz.zeroValue315
def fI := @Tryz.zeroValue142
def fS := @Tryz.underlying3
def fT := @Tryz.underlying5
def fU := @Tryz.zeroValue39
def gh := @Tryz.isAgg0
def gl := @Tryz.zeroValue3
def gm := @Tryz.zeroValue5
def gv := @Tryz.sizeOf4
def gE := @Tryz.sizeOf215
def gF := @Tryz.sizeOf261
def gG := @Tryz.sizeOf262
def gH := @Tryz.sizeOf268
def gI := @Tryz.sizeOf270
def gJ := @Tryz.sizeOf291
def gK := @Tryz.sizeOf295
def gL := @Tryz.sizeOf315
def gM := @Tryz.sizeOf142
def gN := @Tryz.underlying112
def gZ := @Tryz.isAgg4
def hZ := @Tryz.zeroValue112
def iq := @Tryz.isAgg215
def ir := @Tryz.isAgg261
def iu := @Tryz.isAgg262
def iv := @Tryz.sizeOf39
def iw := @Tryz.isAgg268
def iy := @Tryz.isAgg270
def iz := @Tryz.isAgg291
def iA := @Tryz.isAgg295
def iB := @Tryz.isAgg315
def iC := @Tryz.isAgg142
def iI := @Tryz.sizeOf3
def iJ := @Tryz.sizeOf5
def iK := @Tryz.isAgg39
def iU := @Tryz.isAgg3
def iV := @Tryz.isAgg5
def NO : Go.Shelf.Ren := ⟨fun | 6 => 116 | 15 => 179 | 14 => 178 | 28 => 225 | 29 => 226 | 20 => 217 | 21 => 218 | 22 => 219 | 23 => 220 | 24 => 221 | 25 => 222 | 26 => 223 | 27 => 224 | 46 => 255 | 47 => 256 | 48 => 257 | 49 => 258 | 50 => 259 | 57 => 290 | n => n, fun | 22 => 22 | 24 => 108 | 25 => 133 | 3 => 3 | 39 => 215 | 0 => 0 | 53 => 268 | 55 => 270 | 4 => 4 | 46 => 262 | 45 => 261 | 50 => 39 | 5 => 5 | 9 => 9 | 66 => 291 | 70 => 295 | 76 => 315 | 77 => 142 | n => n, fun | n => n⟩
theorem R0 : Go.Proofs.SlLaysF0.n6 Tryz.prog NO := {
 mixed := by kernel_rfl,
 f6 := ⟨Tryz.f116.name, by decide, Tryz.func116.trans (ay some (by kernel_rfl))⟩,
 f14 := ⟨Tryz.f178.name, by decide, Tryz.func178.trans (ay some (by kernel_rfl))⟩,
 f15 := Tryz.func179.trans (ay some (by kernel_rfl)),
 f20 := ⟨Tryz.f217.name, by decide, Tryz.func217.trans (ay some (by kernel_rfl))⟩,
 f21 := ⟨Tryz.f218.name, by decide, Tryz.func218.trans (ay some (by kernel_rfl))⟩,
 f22 := ⟨Tryz.f219.name, by decide, Tryz.func219.trans (ay some (by kernel_rfl))⟩,
 f23 := ⟨Tryz.f220.name, by decide, Tryz.func220.trans (ay some (by kernel_rfl))⟩,
 f24 := ⟨Tryz.f221.name, by decide, Tryz.func221.trans (ay some (by kernel_rfl))⟩,
 f25 := ⟨Tryz.f222.name, by decide, Tryz.func222.trans (ay some (by kernel_rfl))⟩,
 f26 := ⟨Tryz.f223.name, by decide, Tryz.func223.trans (ay some (by kernel_rfl))⟩,
 f27 := ⟨Tryz.f224.name, by decide, Tryz.func224.trans (ay some (by kernel_rfl))⟩,
 f28 := Tryz.func225.trans (ay some (by kernel_rfl)),
 f29 := Tryz.func226.trans (ay some (by kernel_rfl)),
 f46 := ⟨Tryz.f255.name, by decide, Tryz.func255.trans (ay some (by kernel_rfl))⟩,
 f47 := Tryz.func256.trans (ay some (by kernel_rfl)),
 f48 := Tryz.func257.trans (ay some (by kernel_rfl)),
 f49 := ⟨Tryz.f258.name, by decide, Tryz.func258.trans (ay some (by kernel_rfl))⟩,
 f50 := ⟨Tryz.f259.name, by decide, Tryz.func259.trans (ay some (by kernel_rfl))⟩,
 f57 := ⟨Tryz.f290.name, by decide, Tryz.func290.trans (ay some (by kernel_rfl))⟩,
 t0 := dL,
 a0 := gh,
 z0 := fy,
 v0 := dQ,
 t3 := fS,
 a3 := iU,
 z3 := iI,
 v3 := gl,
 t4 := ey,
 a4 := gZ,
 z4 := gv,
 v4 := eK,
 t5 := fT,
 a5 := iV,
 z5 := iJ,
 v5 := gm,
 t9 := dv,
 a9 := fj,
 z9 := ez,
 v9 := dA,
 t22 := Tryz.underlying22,
 a22 := Tryz.isAgg22,
 z22 := Tryz.sizeOf22,
 v22 := Tryz.zeroValue22,
 t25 := Tryz.underlying133,
 a25 := Tryz.isAgg133,
 z25 := Tryz.sizeOf133,
 v25 := Tryz.zeroValue133,
 t39 := eS,
 a39 := iq,
 z39 := gE,
 v39 := fz,
 t45 := eT,
 a45 := ir,
 z45 := gF,
 v45 := fA,
 t46 := eU,
 a46 := iu,
 z46 := gG,
 v46 := fB,
 t50 := fC,
 a50 := iK,
 z50 := iv,
 v50 := fU,
 t53 := eV,
 a53 := iw,
 z53 := gH,
 v53 := fD,
 t55 := eW,
 a55 := iy,
 z55 := gI,
 v55 := fE,
 t66 := eX,
 a66 := iz,
 z66 := gJ,
 v66 := fF,
 t70 := eY,
 a70 := iA,
 z70 := gK,
 v70 := fG,
 t76 := eZ,
 a76 := iB,
 z76 := gL,
 v76 := fH,
 t77 := fa,
 a77 := iC,
 z77 := gM,
 v77 := fI}
def OL : Go.Shelf.Ren := ⟨fun | 6 => 276 | 15 => 179 | 14 => 296 | 28 => 225 | 29 => 226 | 20 => 301 | 21 => 302 | 22 => 303 | 23 => 304 | 24 => 305 | 25 => 306 | 26 => 307 | 27 => 308 | 46 => 310 | 47 => 256 | 48 => 257 | 49 => 311 | 50 => 312 | 57 => 313 | n => n, fun | 22 => 34 | 24 => 28 | 25 => 118 | 3 => 3 | 39 => 215 | 0 => 0 | 53 => 268 | 55 => 270 | 4 => 4 | 46 => 262 | 45 => 261 | 50 => 39 | 5 => 5 | 9 => 9 | 66 => 291 | 70 => 295 | 76 => 315 | 77 => 142 | n => n, fun | n => n⟩
theorem RF : Go.Proofs.SlLaysF0.n6 Tryz.prog OL := {
 mixed := by kernel_rfl,
 f6 := ⟨Tryz.f276.name, by decide, Tryz.func276.trans (ay some (by kernel_rfl))⟩,
 f14 := ⟨Tryz.f296.name, by decide, Tryz.func296.trans (ay some (by kernel_rfl))⟩,
 f15 := Tryz.func179.trans (ay some (by kernel_rfl)),
 f20 := ⟨Tryz.f301.name, by decide, Tryz.func301.trans (ay some (by kernel_rfl))⟩,
 f21 := ⟨Tryz.f302.name, by decide, Tryz.func302.trans (ay some (by kernel_rfl))⟩,
 f22 := ⟨Tryz.f303.name, by decide, Tryz.func303.trans (ay some (by kernel_rfl))⟩,
 f23 := ⟨Tryz.f304.name, by decide, Tryz.func304.trans (ay some (by kernel_rfl))⟩,
 f24 := ⟨Tryz.f305.name, by decide, Tryz.func305.trans (ay some (by kernel_rfl))⟩,
 f25 := ⟨Tryz.f306.name, by decide, Tryz.func306.trans (ay some (by kernel_rfl))⟩,
 f26 := ⟨Tryz.f307.name, by decide, Tryz.func307.trans (ay some (by kernel_rfl))⟩,
 f27 := ⟨Tryz.f308.name, by decide, Tryz.func308.trans (ay some (by kernel_rfl))⟩,
 f28 := Tryz.func225.trans (ay some (by kernel_rfl)),
 f29 := Tryz.func226.trans (ay some (by kernel_rfl)),
 f46 := ⟨Tryz.f310.name, by decide, Tryz.func310.trans (ay some (by kernel_rfl))⟩,
 f47 := Tryz.func256.trans (ay some (by kernel_rfl)),
 f48 := Tryz.func257.trans (ay some (by kernel_rfl)),
 f49 := ⟨Tryz.f311.name, by decide, Tryz.func311.trans (ay some (by kernel_rfl))⟩,
 f50 := ⟨Tryz.f312.name, by decide, Tryz.func312.trans (ay some (by kernel_rfl))⟩,
 f57 := ⟨Tryz.f313.name, by decide, Tryz.func313.trans (ay some (by kernel_rfl))⟩,
 t0 := dL,
 a0 := gh,
 z0 := fy,
 v0 := dQ,
 t3 := fS,
 a3 := iU,
 z3 := iI,
 v3 := gl,
 t4 := ey,
 a4 := gZ,
 z4 := gv,
 v4 := eK,
 t5 := fT,
 a5 := iV,
 z5 := iJ,
 v5 := gm,
 t9 := dv,
 a9 := fj,
 z9 := ez,
 v9 := dA,
 t22 := Tryz.underlying34,
 a22 := Tryz.isAgg34,
 z22 := Tryz.sizeOf34,
 v22 := Tryz.zeroValue34,
 t25 := Tryz.underlying118,
 a25 := Tryz.isAgg118,
 z25 := Tryz.sizeOf118,
 v25 := Tryz.zeroValue118,
 t39 := eS,
 a39 := iq,
 z39 := gE,
 v39 := fz,
 t45 := eT,
 a45 := ir,
 z45 := gF,
 v45 := fA,
 t46 := eU,
 a46 := iu,
 z46 := gG,
 v46 := fB,
 t50 := fC,
 a50 := iK,
 z50 := iv,
 v50 := fU,
 t53 := eV,
 a53 := iw,
 z53 := gH,
 v53 := fD,
 t55 := eW,
 a55 := iy,
 z55 := gI,
 v55 := fE,
 t66 := eX,
 a66 := iz,
 z66 := gJ,
 v66 := fF,
 t70 := eY,
 a70 := iA,
 z70 := gK,
 v70 := fG,
 t76 := eZ,
 a76 := iB,
 z76 := gL,
 v76 := fH,
 t77 := fa,
 a77 := iC,
 z77 := gM,
 v77 := fI}
def Oj : Go.Shelf.Ren := ⟨fun | 6 => 182 | 8 => 179 | 9 => 229 | 19 => 225 | 20 => 226 | 21 => 260 | 22 => 261 | 23 => 262 | 24 => 263 | 25 => 264 | 26 => 265 | 27 => 266 | 28 => 267 | 29 => 268 | 36 => 291 | 31 => 256 | 32 => 257 | 37 => 292 | 38 => 293 | 39 => 294 | 41 => 300 | n => n, fun | 27 => 112 | 29 => 9 | 3 => 3 | 32 => 215 | 26 => 112 | 0 => 0 | 44 => 268 | 46 => 270 | 4 => 4 | 36 => 262 | 35 => 261 | 41 => 39 | 5 => 5 | 9 => 9 | 53 => 291 | 57 => 295 | 63 => 315 | 64 => 142 | n => n, fun | n => n⟩
theorem O3 : Go.Proofs.SlLaysM.n6 Tryz.prog Oj := {
 mixed := by kernel_rfl,
 f6 := ⟨Tryz.f182.name, by decide, Tryz.func182.trans (ay some (by kernel_rfl))⟩,
 f8 := Tryz.func179.trans (ay some (by kernel_rfl)),
 f9 := ⟨Tryz.f229.name, by decide, Tryz.func229.trans (ay some (by kernel_rfl))⟩,
 f19 := Tryz.func225.trans (ay some (by kernel_rfl)),
 f20 := Tryz.func226.trans (ay some (by kernel_rfl)),
 f21 := ⟨Tryz.f260.name, by decide, Tryz.func260.trans (ay some (by kernel_rfl))⟩,
 f22 := ⟨Tryz.f261.name, by decide, Tryz.func261.trans (ay some (by kernel_rfl))⟩,
 f23 := ⟨Tryz.f262.name, by decide, Tryz.func262.trans (ay some (by kernel_rfl))⟩,
 f24 := ⟨Tryz.f263.name, by decide, Tryz.func263.trans (ay some (by kernel_rfl))⟩,
 f25 := ⟨Tryz.f264.name, by decide, Tryz.func264.trans (ay some (by kernel_rfl))⟩,
 f26 := ⟨Tryz.f265.name, by decide, Tryz.func265.trans (ay some (by kernel_rfl))⟩,
 f27 := ⟨Tryz.f266.name, by decide, Tryz.func266.trans (ay some (by kernel_rfl))⟩,
 f28 := ⟨Tryz.f267.name, by decide, Tryz.func267.trans (ay some (by kernel_rfl))⟩,
 f29 := ⟨Tryz.f268.name, by decide, Tryz.func268.trans (ay some (by kernel_rfl))⟩,
 f31 := Tryz.func256.trans (ay some (by kernel_rfl)),
 f32 := Tryz.func257.trans (ay some (by kernel_rfl)),
 f36 := ⟨Tryz.f291.name, by decide, Tryz.func291.trans (ay some (by kernel_rfl))⟩,
 f37 := ⟨Tryz.f292.name, by decide, Tryz.func292.trans (ay some (by kernel_rfl))⟩,
 f38 := ⟨Tryz.f293.name, by decide, Tryz.func293.trans (ay some (by kernel_rfl))⟩,
 f39 := ⟨Tryz.f294.name, by decide, Tryz.func294.trans (ay some (by kernel_rfl))⟩,
 f41 := ⟨Tryz.f300.name, by decide, Tryz.func300.trans (ay some (by kernel_rfl))⟩,
 t0 := dL,
 a0 := gh,
 z0 := fy,
 v0 := dQ,
 t3 := fS,
 a3 := iU,
 z3 := iI,
 v3 := gl,
 t4 := ey,
 a4 := gZ,
 z4 := gv,
 v4 := eK,
 t5 := fT,
 a5 := iV,
 z5 := iJ,
 v5 := gm,
 t9 := dv,
 a9 := fj,
 z9 := ez,
 v9 := dA,
 t26 := gN,
 a26 := Tryz.isAgg112,
 z26 := Tryz.sizeOf112,
 v26 := hZ,
 t27 := gN,
 a27 := Tryz.isAgg112,
 z27 := Tryz.sizeOf112,
 v27 := hZ,
 t29 := dv,
 a29 := fj,
 z29 := ez,
 v29 := dA,
 t32 := eS,
 a32 := iq,
 z32 := gE,
 v32 := fz,
 t35 := eT,
 a35 := ir,
 z35 := gF,
 v35 := fA,
 t36 := eU,
 a36 := iu,
 z36 := gG,
 v36 := fB,
 t41 := fC,
 a41 := iK,
 z41 := iv,
 v41 := fU,
 t44 := eV,
 a44 := iw,
 z44 := gH,
 v44 := fD,
 t46 := eW,
 a46 := iy,
 z46 := gI,
 v46 := fE,
 t53 := eX,
 a53 := iz,
 z53 := gJ,
 v53 := fF,
 t57 := eY,
 a57 := iA,
 z57 := gK,
 v57 := fG,
 t63 := eZ,
 a63 := iB,
 z63 := gL,
 v63 := fH,
 t64 := fa,
 a64 := iC,
 z64 := gM,
 v64 := fI}
def QU : Go.Shelf.Ren := ⟨fun | 7 => 120 | 10 => 183 | n => n, fun | 23 => 175 | 26 => 9 | 3 => 4 | 28 => 180 | 0 => 0 | 27 => 179 | 33 => 194 | 4 => 4 | n => n, fun | n => n⟩
theorem QT : Go.Proofs.SlLaysZ.n7 Tryz.prog QU := {
 mixed := by kernel_rfl,
 f7 := ⟨Tryz.f120.name, by decide, Tryz.func120.trans (ay some (by kernel_rfl))⟩,
 f10 := ⟨Tryz.f183.name, by decide, Tryz.func183.trans (ay some (by kernel_rfl))⟩,
 t0 := dL,
 a0 := gh,
 z0 := fy,
 v0 := dQ,
 t4 := ey,
 a4 := gZ,
 z4 := gv,
 v4 := eK,
 t23 := Tryz.underlying175,
 a23 := Tryz.isAgg175,
 z23 := Tryz.sizeOf175,
 v23 := Tryz.zeroValue175,
 t26 := dv,
 a26 := fj,
 z26 := ez,
 v26 := dA,
 t27 := Tryz.underlying179,
 a27 := Tryz.isAgg179,
 z27 := Tryz.sizeOf179,
 v27 := Tryz.zeroValue179,
 t28 := Tryz.underlying180,
 a28 := Tryz.isAgg180,
 z28 := Tryz.sizeOf180,
 v28 := Tryz.zeroValue180,
 t33 := Tryz.underlying194,
 a33 := Tryz.isAgg194,
 z33 := Tryz.sizeOf194,
 v33 := Tryz.zeroValue194}
def Q6 : Go.Shelf.Ren := ⟨fun | 6 => 119 | 8 => 181 | 9 => 182 | 11 => 228 | 13 => 179 | 12 => 229 | 23 => 225 | 24 => 226 | 14 => 260 | 15 => 261 | 16 => 262 | 17 => 263 | 18 => 264 | 19 => 265 | 20 => 266 | 21 => 267 | 22 => 268 | 25 => 291 | 26 => 256 | 27 => 257 | 28 => 292 | 29 => 293 | 30 => 294 | 31 => 300 | n => n, fun | 26 => 9 | 28 => 180 | 24 => 112 | 0 => 0 | 3 => 3 | 37 => 215 | 48 => 268 | 50 => 270 | 4 => 4 | 40 => 262 | 39 => 261 | 45 => 39 | 5 => 5 | 9 => 9 | 51 => 291 | 55 => 295 | 57 => 315 | 58 => 142 | 33 => 194 | n => n, fun | n => n⟩
theorem Rq : Go.Proofs.SlLaysZ.n6 Tryz.prog Q6 := {
 mixed := by kernel_rfl,
 f6 := ⟨Tryz.f119.name, by decide, Tryz.func119.trans (ay some (by kernel_rfl))⟩,
 f8 := ⟨Tryz.f181.name, by decide, Tryz.func181.trans (ay some (by kernel_rfl))⟩,
 f11 := ⟨Tryz.f228.name, by decide, Tryz.func228.trans (ay some (by kernel_rfl))⟩,
 t0 := dL,
 a0 := gh,
 z0 := fy,
 v0 := dQ,
 t24 := gN,
 a24 := Tryz.isAgg112,
 z24 := Tryz.sizeOf112,
 v24 := hZ,
 t26 := dv,
 a26 := fj,
 z26 := ez,
 v26 := dA,
 t28 := Tryz.underlying180,
 a28 := Tryz.isAgg180,
 z28 := Tryz.sizeOf180,
 v28 := Tryz.zeroValue180,
 i26 := by kernel_rfl}
def Og : Go.Shelf.Ren := ⟨fun | 6 => 195 | 15 => 179 | 14 => 244 | 28 => 225 | 29 => 226 | 20 => 278 | 21 => 279 | 22 => 280 | 23 => 281 | 24 => 282 | 25 => 283 | 26 => 284 | 27 => 285 | 46 => 297 | 47 => 256 | 48 => 257 | 49 => 298 | 50 => 299 | 57 => 309 | n => n, fun | 22 => 99 | 24 => 34 | 25 => 246 | 3 => 3 | 39 => 215 | 0 => 0 | 53 => 268 | 55 => 270 | 4 => 4 | 46 => 262 | 45 => 261 | 50 => 39 | 5 => 5 | 9 => 9 | 66 => 291 | 70 => 295 | 76 => 315 | 77 => 142 | n => n, fun | n => n⟩
theorem RW : Go.Proofs.SlLaysF.n6 Tryz.prog Og := {
 mixed := by kernel_rfl,
 f6 := ⟨Tryz.f195.name, by decide, Tryz.func195.trans (ay some (by kernel_rfl))⟩,
 f14 := ⟨Tryz.f244.name, by decide, Tryz.func244.trans (ay some (by kernel_rfl))⟩,
 f15 := Tryz.func179.trans (ay some (by kernel_rfl)),
 f20 := ⟨Tryz.f278.name, by decide, Tryz.func278.trans (ay some (by kernel_rfl))⟩,
 f21 := ⟨Tryz.f279.name, by decide, Tryz.func279.trans (ay some (by kernel_rfl))⟩,
 f22 := ⟨Tryz.f280.name, by decide, Tryz.func280.trans (ay some (by kernel_rfl))⟩,
 f23 := ⟨Tryz.f281.name, by decide, Tryz.func281.trans (ay some (by kernel_rfl))⟩,
 f24 := ⟨Tryz.f282.name, by decide, Tryz.func282.trans (ay some (by kernel_rfl))⟩,
 f25 := ⟨Tryz.f283.name, by decide, Tryz.func283.trans (ay some (by kernel_rfl))⟩,
 f26 := ⟨Tryz.f284.name, by decide, Tryz.func284.trans (ay some (by kernel_rfl))⟩,
 f27 := ⟨Tryz.f285.name, by decide, Tryz.func285.trans (ay some (by kernel_rfl))⟩,
 f28 := Tryz.func225.trans (ay some (by kernel_rfl)),
 f29 := Tryz.func226.trans (ay some (by kernel_rfl)),
 f46 := ⟨Tryz.f297.name, by decide, Tryz.func297.trans (ay some (by kernel_rfl))⟩,
 f47 := Tryz.func256.trans (ay some (by kernel_rfl)),
 f48 := Tryz.func257.trans (ay some (by kernel_rfl)),
 f49 := ⟨Tryz.f298.name, by decide, Tryz.func298.trans (ay some (by kernel_rfl))⟩,
 f50 := ⟨Tryz.f299.name, by decide, Tryz.func299.trans (ay some (by kernel_rfl))⟩,
 f57 := ⟨Tryz.f309.name, by decide, Tryz.func309.trans (ay some (by kernel_rfl))⟩,
 t0 := dL,
 a0 := gh,
 z0 := fy,
 v0 := dQ,
 t3 := fS,
 a3 := iU,
 z3 := iI,
 v3 := gl,
 t4 := ey,
 a4 := gZ,
 z4 := gv,
 v4 := eK,
 t5 := fT,
 a5 := iV,
 z5 := iJ,
 v5 := gm,
 t9 := dv,
 a9 := fj,
 z9 := ez,
 v9 := dA,
 t22 := Tryz.underlying99,
 a22 := Tryz.isAgg99,
 z22 := Tryz.sizeOf99,
 v22 := Tryz.zeroValue99,
 a24 := Tryz.isAgg34,
 z24 := Tryz.sizeOf34,
 t25 := Tryz.underlying246,
 a25 := Tryz.isAgg246,
 z25 := Tryz.sizeOf246,
 v25 := Tryz.zeroValue246,
 t39 := eS,
 a39 := iq,
 z39 := gE,
 v39 := fz,
 t45 := eT,
 a45 := ir,
 z45 := gF,
 v45 := fA,
 t46 := eU,
 a46 := iu,
 z46 := gG,
 v46 := fB,
 t50 := fC,
 a50 := iK,
 z50 := iv,
 v50 := fU,
 t53 := eV,
 a53 := iw,
 z53 := gH,
 v53 := fD,
 t55 := eW,
 a55 := iy,
 z55 := gI,
 v55 := fE,
 t66 := eX,
 a66 := iz,
 z66 := gJ,
 v66 := fF,
 t70 := eY,
 a70 := iA,
 z70 := gK,
 v70 := fG,
 t76 := eZ,
 a76 := iB,
 z76 := gL,
 v76 := fH,
 t77 := fa,
 a77 := iC,
 z77 := gM,
 v77 := fI}
end Go.Proofs.YtbnbdigcbldfhaaGreat
namespace Go.Proofs.YtbnbdigcbldfhaaGreat
open Go.IntKind renaming wrap → wi0
open Go.RowKit
set_option maxRecDepth 10000
noncomputable section
structure ja where
 jn : ByteArray
 jK : ByteArray
def jc (x : ja) : List Value := [.string x.jn, .string x.jK]
def jt (x y : ja) : Bool := (ke x.jn y.jn) && ((ke x.jK y.jK) && true)
theorem jB {x y : ja} : jt x y = true ↔ x = y := by
 cases x; cases y; simp [jt, kK]
theorem lx (x : ja) : (jc x).length = 2 := rfl
theorem lf (x : ja) : ∀ u ∈ jc x, u.oneCell' = true := by
 intro u hu
 simp only [jc, aB, bZ, er] at hu
 rcases hu with rfl | rfl <;> rfl
structure jb where
 Kind : Int
 Head : ja
 jL : ByteArray
 B : ja
 C : ja
 kk : ByteArray
def jg (x : jb) : List Value := [.int .i64 x.Kind, .string x.Head.jn, .string x.Head.jK, .string x.jL, .string x.B.jn, .string x.B.jK, .string x.C.jn, .string x.C.jK, .string x.kk]
def mV (x y : jb) : Bool := (x.Kind == y.Kind) && ((jt x.Head y.Head) && ((ke x.jL y.jL) && ((jt x.B y.B) && ((jt x.C y.C) && ((ke x.kk y.kk) && true)))))
theorem uH {x y : jb} : mV x y = true ↔ x = y := by
 cases x; cases y; simp [mV, kK, jB]
theorem lz (x : jb) : (jg x).length = 9 := rfl
theorem mo (x : jb) : ∀ u ∈ jg x, u.oneCell' = true := by
 intro u hu
 simp only [jg, aB, bZ, er] at hu
 rcases hu with rfl | rfl | rfl | rfl | rfl | rfl | rfl | rfl | rfl <;> rfl
structure jd where
 ja : ja
 jL : ByteArray
def jw (x : jd) : List Value := [.string x.ja.jn, .string x.ja.jK, .string x.jL]
def lH (x y : jd) : Bool := (jt x.ja y.ja) && ((ke x.jL y.jL) && true)
theorem lp {x y : jd} : lH x y = true ↔ x = y := by
 cases x; cases y; simp [lH, kK, jB]
theorem nn (x : jd) : (jw x).length = 3 := rfl
theorem zk (x : jd) : ∀ u ∈ jw x, u.oneCell' = true := by
 intro u hu
 simp only [jw, aB, bZ, er] at hu
 rcases hu with rfl | rfl | rfl <;> rfl
structure jv where
 jb : jb
 jd : jd
def js (x : jv) : List Value := [.int .i64 x.jb.Kind, .string x.jb.Head.jn, .string x.jb.Head.jK, .string x.jb.jL, .string x.jb.B.jn, .string x.jb.B.jK, .string x.jb.C.jn, .string x.jb.C.jK, .string x.jb.kk, .string x.jd.ja.jn, .string x.jd.ja.jK, .string x.jd.jL]
def AU (x y : jv) : Bool := (mV x.jb y.jb) && ((lH x.jd y.jd) && true)
theorem FQ {x y : jv} : AU x y = true ↔ x = y := by
 cases x; cases y; simp [AU, kK, uH, lp]
theorem mz (x : jv) : (js x).length = 12 := rfl
theorem qJ (x : jv) : ∀ u ∈ js x, u.oneCell' = true := by
 intro u hu
 simp only [js, aB, bZ, er] at hu
 rcases hu with rfl | rfl | rfl | rfl | rfl | rfl | rfl | rfl | rfl | rfl | rfl | rfl <;> rfl
structure QP where
 UJ : Int
 UK : Int
structure lG where
 e : Int
structure Key where
 jL : ByteArray
 Key : List Int
structure Signed where
 jb : jb
 Tag : List Int
structure Formula where
 Op : Int
 K : Int
 ja : ja
 Kids : List Formula
structure ot where
 Signed : Signed
 lI : Formula
structure vk where
 ja : ja
 lI : Formula
 Fe : List jb
structure mD where
 Name : ByteArray
 w6 : List ot
 A8 : List vk
structure KC where
 jn : mD
 Client : mD
 Formula : Formula
 RG : Int
 QH : QP
 Mn : Int
 Qo : Int
 NY : Int
 Keys : List Key
structure Al where
 mD : mD
 Ae : ByteArray
 Room : Int
 ph : List jb
 Shown : List jb
 lV : List ja
 Dy : List ja
def nL (a0 : ByteArray) (a : Int) : Option Int :=
 some (xf a0 a)
def qX (a0 : ByteArray) (a : Int) : Option Int :=
 ((nL a0 a).bind fun c => some c)
def uY  : List Int → Option Bool
 | [] => some true
 | d :: a => ((qX (⟨#[97, 98, 99, 100, 101, 102, 103, 104, 105, 106, 107, 108, 109, 110, 111, 112, 113, 114, 115, 116, 117, 118, 119, 120, 121, 122, 48, 49, 50, 51, 52, 53, 54, 55, 56, 57, 45]⟩ : ByteArray) d).bind fun c => (if (decide (c < 0)) then some false else (uY a)))
def B6 (a0 : ByteArray) : Option Bool :=
 ((CZ a0).bind fun a => uY a)
def oH (a0 : ByteArray) : Option Bool :=
 ((if (decide ((a0.size : Int) ≥ 1)) then some (decide ((a0.size : Int) ≤ 16)) else some false).bind fun x2 => ((if x2 then ((yX a0 0).bind fun a => ((qX (⟨#[97, 98, 99, 100, 101, 102, 103, 104, 105, 106, 107, 108, 109, 110, 111, 112, 113, 114, 115, 116, 117, 118, 119, 120, 121, 122]⟩ : ByteArray) (a.toNat : Int)).bind fun d => some (decide (d ≥ 0)))) else some false).bind fun g => ((if g then ((B6 a0).bind fun c => some c) else some false).bind fun h => some h)))
def nW (a0 : List Int) : Option (List Int) :=
 ((lj 1 ([]) a0).bind fun a => some a)
def nS (a0 : ja) : Option Bool :=
 ((oH a0.jn).bind fun d => ((if d then ((oH a0.jK).bind fun a => some a) else some false).bind fun c => some c))
def my (a0 a : ByteArray) : Option Int :=
 some (oA a0 a)
def pd (a0 a : ByteArray) : Option Int :=
 ((my a0 a).bind fun c => some c)
def sb  : List Int → Option Int
 | [] => some 0
 | a :: c => (if (a != 0) then some a else (sb c))
def tl (a0 : List Int) : Option Int :=
 sb a0
def mq (a0 g : ja) : Option Int :=
 ((pd a0.jn g.jn).bind fun a => ((pd a0.jK g.jK).bind fun c => ((tl ([a, c])).bind fun d => some d)))
def nU (a0 : jb) : Option Bool :=
 ((nS a0.Head).bind fun z => (((if (a0.Kind == 1) then ((if z then ((oH a0.jL).bind fun c => some c) else some false).bind fun p => some (Sum.inr (p, (⟨a0.Kind, a0.Head, a0.jL, (⟨zS, zS⟩ : ja), (⟨zS, zS⟩ : ja), zS⟩ : jb)))) else (if (a0.Kind == 2) then ((if z then ((nS a0.B).bind fun d => some d) else some false).bind fun q => some (Sum.inr (q, (⟨a0.Kind, a0.Head, zS, a0.B, (⟨zS, zS⟩ : ja), zS⟩ : jb)))) else (if (a0.Kind == 3) then ((if z then ((nS a0.B).bind fun h => some h) else some false).bind fun t => ((if t then some (ke a0.B.jn a0.Head.jn) else some false).bind fun u => ((if u then ((oH a0.kk).bind fun g => some g) else some false).bind fun v => some (Sum.inr (v, (⟨a0.Kind, a0.Head, zS, a0.B, (⟨zS, zS⟩ : ja), a0.kk⟩ : jb)))))) else (if (a0.Kind == 4) then ((if z then ((nS a0.B).bind fun k => some k) else some false).bind fun w => ((if w then ((nS a0.C).bind fun j => some j) else some false).bind fun x => ((if x then ((mq a0.B a0.C).bind fun i => some (decide (i < 0))) else some false).bind fun y => some (Sum.inr (y, (⟨a0.Kind, a0.Head, zS, a0.B, a0.C, zS⟩ : jb)))))) else some (Sum.inl false))))) : Option (Bool ⊕ (Bool × jb))).bind fun s => match s with | .inl a => some a | .inr (m, n) => ((if m then some (mV n a0) else some false).bind fun o => some o)))
def mS  : Nat → Int → (List Int) → Option (Bool × (List Int))
 | 0, _, _ => none
 | h + 1, a, d => (if (decide (a ≥ 128)) then ((lj 1 d ([(IntKind.u8.wrap (BitVec.ofInt (IntKind.bits .u8) (IntKind.u8.wrap a) ||| BitVec.ofInt (IntKind.bits .u8) 128).toNat)])).bind fun g => (mS h (Int.fdiv a (2 ^ min (Int.toNat 7) (IntKind.bits .i64))) g)) else ((lj 1 d ([(IntKind.u8.wrap a)])).bind fun c => some (true, c)))
def kX (a : List Int) (c : Int) : Option (Bool × (List Int)) :=
 (if (decide (c < 0)) then some (false, a) else mS jX c a)
def uQ (a c : List Int) : Option (Bool × (List Int)) :=
 (if (decide ((c.length : Int) > 2048)) then some (false, a) else ((kX a (c.length : Int)).bind fun g => ((lj 1 g.2 c).bind fun d => some (true, d))))
def pD (a : List Int) (i : ByteArray) : Option (Bool × (List Int)) :=
 ((oH i).bind fun j => (((if j then ((CZ i).bind fun g => ((uQ a g).bind fun c => some (c.1, c.2))) else some (false, a)) : Option (Bool × (List Int))).bind fun (h, d) => some (h, d)))
def nm (a : List Int) (h : ja) : Option (Bool × (List Int)) :=
 ((nS h).bind fun m => (((if m then ((pD a h.jn).bind fun g => some (g.1, g.2)) else some (false, a)) : Option (Bool × (List Int))).bind fun (j, c) => (((if j then ((pD c h.jK).bind fun d => some (d.1, d.2)) else some (false, c)) : Option (Bool × (List Int))).bind fun (k, i) => some (k, i))))
def mT (a : List Int) : Option (List Int) :=
 ((nW a).bind fun c => some c)
def tC (a0 : jb) : Option (List Int) :=
 ((nU a0).bind fun n => (if (!n) then some [] else ((kX ([]) a0.Kind).bind fun o => ((nm o.2 a0.Head).bind fun a => (((if (a0.Kind == 1) then ((pD a.2 a0.jL).bind fun g => some g.2) else (if (a0.Kind == 2) then ((nm a.2 a0.B).bind fun h => some h.2) else (if (a0.Kind == 3) then ((nm a.2 a0.B).bind fun i => ((pD i.2 a0.kk).bind fun j => some j.2)) else (if (a0.Kind == 4) then ((nm a.2 a0.B).bind fun k => ((nm k.2 a0.C).bind fun m => some m.2)) else some a.2)))) : Option (List Int)).bind fun c => ((mT c).bind fun d => some d))))))
def qV (a0 : List jb) : Option (List jb) :=
 ((lj 136 ([]) a0).bind fun a => some a)
def nN (f1 : jb → Option Bool) : List jb → Nat → Option Int
 | [], _ => some (-1)
 | d :: a, i35 => ((f1 d).bind fun c => (if c then some (i35 : Int) else (nN f1 a (i35 + 1))))
def tS (a0 : List jb) (f1 : jb → Option Bool) : Option Int :=
 nN f1 a0 0
def mA (f1 : jb → Option Bool) : Nat → (List jb) → Int → Int → Option (List jb)
 | 0, _, _, _ => none
 | n321 + 1, c, a, d => (if (decide (d < (c.length : Int))) then ((((kN c d).bind fun g => ((f1 g).bind fun i => (if (!i) then ((kN c a).bind fun k => some ((c.set (Int.toNat a) g), (wi0 .i64 (a + 1)))) else some (c, a)))) : Option ((List jb) × Int)).bind fun (h, j) => (mA f1 n321 h j (wi0 .i64 (d + 1)))) else ((me (decide (0 ≤ a) && decide (a ≤ (c.length : Int)))).bind fun _ => ((me (decide (0 ≤ a) && decide (a ≤ ((mM c (Int.toNat a) (⟨0, (⟨zS, zS⟩ : ja), zS, (⟨zS, zS⟩ : ja), (⟨zS, zS⟩ : ja), zS⟩ : jb)).length : Int)))).bind fun _ => some ((mM c (Int.toNat a) (⟨0, (⟨zS, zS⟩ : ja), zS, (⟨zS, zS⟩ : ja), (⟨zS, zS⟩ : ja), zS⟩ : jb)).take (Int.toNat a)))))
def qn (a0 : List jb) (f1 : jb → Option Bool) : Option (List jb) :=
 ((tS a0 f1).bind fun a => (if (a == (-1)) then some a0 else mA f1 jX a0 a (wi0 .i64 (a + 1))))
def xB (a0 : jb) : Option Bool :=
 ((nU a0).bind fun a => some (!a))
def yR (a0 a : List Int) : Option Int :=
 some (xY a0 a)
def tj (a0 g : jb) : Option Int :=
 ((tC a0).bind fun a => ((tC g).bind fun c => ((yR a c).bind fun d => some d)))
def nl (c : Int) : Nat → (List jb) → Int → Int → Option ((List jb) × Int)
 | 0, _, _, _ => none
 | i + 1, a, d, g => (if (decide (g < ((a.length - (Int.toNat c) : Nat) : Int))) then ((((kN (a.drop (Int.toNat c)) g).bind fun k => ((kN (a.drop (Int.toNat c)) (wi0 .i64 (g - 1))).bind fun m => (if (!(mV k m)) then ((kN (a.drop (Int.toNat c)) g).bind fun n => ((kN a d).bind fun o => some ((a.set (Int.toNat d) n), (wi0 .i64 (d + 1))))) else some (a, d)))) : Option ((List jb) × Int)).bind fun (h, j) => (nl c i h j (wi0 .i64 (g + 1)))) else some (a, d))
def nw (a0 : List jb) : Nat → Int → Option (List jb)
 | 0, _ => none
 | g + 1, a => (if (decide (a < (a0.length : Int))) then ((kN a0 a).bind fun h => ((kN a0 (wi0 .i64 (a - 1))).bind fun i => (if (mV h i) then ((me (decide (0 ≤ a) && decide (a ≤ (a0.length : Int)))).bind fun _ => ((nl a jX a0 a 1).bind fun (d, c) => ((me (decide (0 ≤ c) && decide (c ≤ (d.length : Int)))).bind fun _ => ((me (decide (0 ≤ c) && decide (c ≤ ((mM d (Int.toNat c) (⟨0, (⟨zS, zS⟩ : ja), zS, (⟨zS, zS⟩ : ja), (⟨zS, zS⟩ : ja), zS⟩ : jb)).length : Int)))).bind fun _ => some ((mM d (Int.toNat c) (⟨0, (⟨zS, zS⟩ : ja), zS, (⟨zS, zS⟩ : ja), (⟨zS, zS⟩ : ja), zS⟩ : jb)).take (Int.toNat c)))))) else (nw a0 g (wi0 .i64 (a + 1)))))) else some a0)
def se (a0 : List jb) : Option (List jb) :=
 (if (decide ((a0.length : Int) < 2)) then some a0 else nw a0 jX 1)
def yy (a0 : List jb) : Option (List jb) :=
 ((qV a0).bind fun g => ((qn g (fun (x : jb) => xB x)).bind fun a => ((w8 (fun (x : (jb × jb)) => tj x.1 x.2) a).bind fun c => ((se c).bind fun d => some d))))
def pt (d : jb) : List jb → Nat → Option Int
 | [], _ => some (-1)
 | c :: a, i46 => (if (mV d c) then some (i46 : Int) else (pt d a (i46 + 1)))
def wh (a0 : List jb) (a : jb) : Option Int :=
 pt a a0 0
def uF (a0 : List jb) (a : jb) : Option Bool :=
 ((wh a0 a).bind fun c => some (decide (c ≥ 0)))
def xd (a0 : List jb) (a : jb) : Option Bool :=
 ((uF a0 a).bind fun c => some c)
def yt (a0 : jb) : Option (List ja) :=
 ((nU a0).bind fun h => (if (!h) then some [] else (((if (a0.Kind != 1) then ((lj 32 ([a0.Head]) ([a0.B])).bind fun g => some g) else some ([a0.Head])) : Option (List ja)).bind fun a => (((if (a0.Kind == 4) then ((lj 32 a ([a0.C])).bind fun d => some d) else some a) : Option (List ja)).bind fun c => some c))))
def nF (i : jb) (a : List (ByteArray × (List jb))) (g : List jb) : List ja → (List (ja × (List jb))) → Option ((List jb) × (List (ja × (List jb))) × (List (ByteArray × (List jb))))
 | [], c => (if (i.Kind == 3) then ((lj 136 ((kx ke a i.kk).getD []) ([i])).bind fun k => some (g, c, (mC ke a i.kk k))) else some (g, c, a))
 | d :: h, c => ((lj 136 ((kx jt c d).getD []) ([i])).bind fun j => (nF i a g h (mC jt c d j)))
def sP (i : List (ja × (List (ByteArray × Bool)))) (a : List jb) (d : List (ja × (List jb))) (c : List (ByteArray × (List jb))) (g : List jd) (m : Int) (j : jb) : Option ((List jb) × (List (ja × (List jb))) × (List (ByteArray × (List jb)))) :=
 ((lj 136 a ([j])).bind fun k => ((yt j).bind fun h => ((me (decide (0 ≤ 1) && decide (1 ≤ (h.length : Int)))).bind fun _ => nF j c k (h.drop (Int.toNat 1)) d)))
def mO (a : List (ja × (List (ByteArray × Bool)))) (g : List jb) (i : List (ja × (List jb))) (h : List (ByteArray × (List jb))) (c : List jd) (d : Int) (j : ja) (a2 : ByteArray) : Option ((List (ja × (List (ByteArray × Bool)))) × (List jd) × Int) :=
 (if (xb ke ((kx jt a j).getD []) a2 false) then some (a, c, d) else (((if (kx jt a j).isNone then ((Gz jt a j ([])).bind fun k => some k) else some a) : Option (List (ja × (List (ByteArray × Bool))))).bind fun m => ((F7 jt ke m j a2 true).bind fun n => ((lj 48 c ([(⟨j, a2⟩ : jd)])).bind fun o => some (n, o, (wi0 .i64 (d + 1)))))))
def nV (a0 : List (ByteArray × Bool)) : Option Unit :=
 some ()
def pZ (a : List (ja × (List (ByteArray × Bool)))) (c : List jb) (h : List (ja × (List jb))) (d : List (ByteArray × (List jb))) (g : List jd) (j : Int) (k : ja) : Option (List ByteArray) :=
 ((nV ((kx jt a k).getD [])).bind fun m => ((GL ((kx jt a k).getD [])).bind fun i => some i))
def px (a : List jb) (d : List (ja × (List jb))) (c : List (ByteArray × (List jb))) (a2 : ja) : List ByteArray → (List (ja × (List (ByteArray × Bool)))) → (List jd) → Int → Option ((List (ja × (List (ByteArray × Bool)))) × (List jd) × Int)
 | [], g, h, j => some (g, h, j)
 | m :: k, g, h, j => ((mO g a d c h j a2 m).bind fun i => (px a d c a2 k i.1 i.2.1 i.2.2))
def tP (h : List (ja × (List (ByteArray × Bool)))) (a : List jb) (g : List (ja × (List jb))) (c : List (ByteArray × (List jb))) (d : List jd) (i : Int) (j a2 : ja) : Option ((List (ja × (List (ByteArray × Bool)))) × (List jd) × Int) :=
 ((pZ h a g c d i j).bind fun k => px a g c a2 k h d i)
def qU (a : List (ja × (List (ByteArray × Bool)))) (d : List jb) (h : List (ja × (List jb))) (g : List (ByteArray × (List jb))) (c : List jd) (i : Int) (j : jb) (a2 : jd) : Option ((List (ja × (List (ByteArray × Bool)))) × (List jd) × Int) :=
 (if (j.Kind == 2) then ((mO a d h g c i j.Head a2.jL).bind fun n => some (n.1, n.2.1, n.2.2)) else (if (j.Kind == 3) then ((tP a d h g c i (⟨a2.jL, j.kk⟩ : ja) j.Head).bind fun k => some (k.1, k.2.1, k.2.2)) else (if (j.Kind == 4) then ((if (xb ke ((kx jt a j.B).getD []) a2.jL false) then some (xb ke ((kx jt a j.C).getD []) a2.jL false) else some false).bind fun o => (if o then ((mO a d h g c i j.Head a2.jL).bind fun m => some (m.1, m.2.1, m.2.2)) else some (a, c, i))) else some (a, c, i))))
def oy (a : List jb) (d : List (ja × (List jb))) (c : List (ByteArray × (List jb))) (n : jb) : List ByteArray → (List (ja × (List (ByteArray × Bool)))) → (List jd) → Int → Option ((List (ja × (List (ByteArray × Bool)))) × (List jd) × Int)
 | [], g, h, j => some (g, h, j)
 | m :: k, g, h, j => ((qU g a d c h j n (⟨n.B, m⟩ : jd)).bind fun i => (oy a d c n k i.1 i.2.1 i.2.2))
def sc (h : List (ja × (List (ByteArray × Bool)))) (a : List jb) (g : List (ja × (List jb))) (c : List (ByteArray × (List jb))) (d : List jd) (i : Int) (j : jb) : Option ((List (ja × (List (ByteArray × Bool)))) × (List jd) × Int) :=
 (if (j.Kind == 1) then ((mO h a g c d i j.Head j.jL).bind fun m => some (m.1, m.2.1, m.2.2)) else ((pZ h a g c d i j.B).bind fun k => oy a g c j k h d i))
def mU (i : jd) (a : List jb) (d : List (ja × (List jb))) (c : List (ByteArray × (List jb))) : List jb → (List (ja × (List (ByteArray × Bool)))) → (List jd) → Int → Option ((List (ja × (List (ByteArray × Bool)))) × (List jd) × Int)
 | [], g, h, j => some (g, h, j)
 | n :: m, g, h, j => (if (xb ke ((kx jt g n.B).getD []) i.ja.jn false) then ((mO g a d c h j n.Head i.jL).bind fun k => (mU i a d c m k.1 k.2.1 k.2.2)) else (mU i a d c m g h j))
def ob (a : List jb) (d : List (ja × (List jb))) (c : List (ByteArray × (List jb))) (k : jd) : List jb → (List (ja × (List (ByteArray × Bool)))) → (List jd) → Int → Option ((List (ja × (List (ByteArray × Bool)))) × (List jd) × Int)
 | [], g, h, j => some (g, h, j)
 | n :: m, g, h, j => ((qU g a d c h j n k).bind fun i => (ob a d c k m i.1 i.2.1 i.2.2))
def ml (d : List jb) (c : List (ja × (List jb))) (a : List (ByteArray × (List jb))) : Nat → (List (ja × (List (ByteArray × Bool)))) → (List jd) → Int → Option ((List (ja × (List (ByteArray × Bool)))) × (List jd) × Int)
 | 0, _, _, _ => none
 | p + 1, i, g, j => (if (decide ((g.length : Int) > 0)) then ((kN g 0).bind fun h => ((me (decide (0 ≤ 1) && decide (1 ≤ (g.length : Int)))).bind fun _ => ((ob d c a h ((kx jt c h.ja).getD []) i (g.drop (Int.toNat 1)) j).bind fun (k, m, q) => ((mU h d c a ((kx ke a h.ja.jK).getD []) k m q).bind fun (n, o, s) => (ml d c a p n o s))))) else some (i, g, j))
def uB (h : List (ja × (List (ByteArray × Bool)))) (a : List jb) (g : List (ja × (List jb))) (c : List (ByteArray × (List jb))) (d : List jd) (i : Int) : Option ((List (ja × (List (ByteArray × Bool)))) × (List jd) × Int) :=
 ml a g c jX h d i
def mQ (n : Int) : List jb → (List (ja × (List (ByteArray × Bool)))) → (List jb) → (List (ja × (List jb))) → (List (ByteArray × (List jb))) → (List jd) → Int → Option (Int × (List (ja × (List (ByteArray × Bool)))) × (List jb) × (List (ja × (List jb))) × (List (ByteArray × (List jb))) × (List jd) × Int)
 | [], d, a, g, h, i, j => ((uB d a g h i j).bind fun k => some ((wi0 .i64 (k.2.2 - n)), k.1, a, g, h, k.2.1, k.2.2))
 | m :: p, d, a, g, h, i, j => ((nU m).bind fun q => ((if q then ((xd a m).bind fun s => some (!s)) else some false).bind fun t => (if t then ((sP d a g h i j m).bind fun c => ((sc d c.1 c.2.1 c.2.2 i j m).bind fun o => (mQ n p o.1 c.1 c.2.1 c.2.2 o.2.1 o.2.2))) else (mQ n p d a g h i j))))
def tN (h : List (ja × (List (ByteArray × Bool)))) (a : List jb) (g : List (ja × (List jb))) (c : List (ByteArray × (List jb))) (d : List jd) (i : Int) (j : List jb) : Option (Int × (List (ja × (List (ByteArray × Bool)))) × (List jb) × (List (ja × (List jb))) × (List (ByteArray × (List jb))) × (List jd) × Int) :=
 mQ i j h a g c d i
def vt (a0 : List jb) : Option ((List (ja × (List (ByteArray × Bool)))) × (List jb) × (List (ja × (List jb))) × (List (ByteArray × (List jb))) × (List jd) × Int) :=
 ((tN ([]) ([]) ([]) ([]) ([]) 0 a0).bind fun a => some (a.2.1, a.2.2.1, a.2.2.2.1, a.2.2.2.2.1, a.2.2.2.2.2.1, a.2.2.2.2.2.2))
def pC (a0 g : jd) : Option Int :=
 ((mq a0.ja g.ja).bind fun a => ((pd a0.jL g.jL).bind fun c => ((tl ([a, c])).bind fun d => some d)))
def wg (c : List (ja × (List (ByteArray × Bool)))) (d : List jb) (i : List (ja × (List jb))) (g : List (ByteArray × (List jb))) (h : List jd) (k : Int) : Option (List jd) :=
 ((OK 48 (fun (a : ja) (b : ByteArray) => (⟨a, b⟩ : jd)) c).bind fun m => ET m (fun j => ((w8 (fun (x : (jd × jd)) => pC x.1 x.2) j).bind fun n => some n)))
def rl (a : List (ja × (List (ByteArray × Bool)))) (c : List jb) (h : List (ja × (List jb))) (d : List (ByteArray × (List jb))) (g : List jd) (i : Int) (j : ja) (a2 : ByteArray) : Option Bool :=
 some (xb ke ((kx jt a j).getD []) a2 false)
def oB  : List jb → Int → Option Int
 | [], c => some c
 | a :: d, c => (oB d (wi0 .i64 (c + (wi0 .i64 ((wi0 .i64 ((wi0 .i64 ((wi0 .i64 ((wi0 .i64 ((wi0 .i64 ((wi0 .i64 ((wi0 .i64 (20 + (a.Head.jn.size : Int))) + (a.Head.jK.size : Int))) + (a.jL.size : Int))) + (a.B.jn.size : Int))) + (a.B.jK.size : Int))) + (a.C.jn.size : Int))) + (a.C.jK.size : Int))) + (a.kk.size : Int))))))
def vK (a0 : List jb) : Option Int :=
 oB a0 0
def vy  : List Signed → Int → Option Int
 | [], a => some a
 | c :: d, a => ((vK ([c.jb])).bind fun g => (vy d (wi0 .i64 (a + (wi0 .i64 (g + (c.Tag.length : Int)))))))
def xR (h : List Signed) : List Key → Int → Option Int
 | [], a => ((vy h a).bind fun c => some c)
 | d :: g, a => (xR h g (wi0 .i64 (a + (wi0 .i64 ((wi0 .i64 (10 + (d.jL.size : Int))) + (d.Key.length : Int))))))
def D0 (a0 : List Key) (a : List Signed) : Option Int :=
 xR a a0 0
def pL (a0 : ByteArray) : Nat → Int → Option Bool
 | 0, _ => none
 | d + 1, c => (if (decide (c < (a0.size : Int))) then ((yX a0 c).bind fun a => ((if (decide ((a.toNat : Int) < 97)) then some true else some (decide ((a.toNat : Int) > 122))).bind fun g => ((if g then ((if (decide ((a.toNat : Int) < 48)) then some true else some (decide ((a.toNat : Int) > 57))).bind fun j => some j) else some false).bind fun h => ((if h then some ((a.toNat : Int) != 45) else some false).bind fun i => (if i then some false else (pL a0 d (wi0 .i64 (c + 1)))))))) else some true)
def oP (a0 : ByteArray) : Option Bool :=
 ((if (ke a0 zS) then some true else some (decide ((a0.size : Int) > 16))).bind fun x2 => ((if x2 then some true else ((yX a0 0).bind fun c => some (decide ((c.toNat : Int) < 97)))).bind fun d => ((if d then some true else ((yX a0 0).bind fun a => some (decide ((a.toNat : Int) > 122)))).bind fun g => (if g then some false else pL a0 jX 0))))
def qN (a0 : ja) : Option Bool :=
 ((oP a0.jn).bind fun d => ((if d then ((oP a0.jK).bind fun a => some a) else some false).bind fun c => some c))
def wK (a0 a : ja) : Option Bool :=
 ((if (oQ a0.jn a.jn) then some true else ((if (ke a0.jn a.jn) then some (oQ a0.jK a.jK) else some false).bind fun d => some d)).bind fun c => some c)
def pK (a0 : jb) : Option Bool :=
 ((qN a0.Head).bind fun u => (if (!u) then some false else (if (a0.Kind == 1) then ((oP a0.jL).bind fun i => ((if i then some (jt a0.B (⟨zS, zS⟩ : ja)) else some false).bind fun k => ((if k then some (jt a0.C (⟨zS, zS⟩ : ja)) else some false).bind fun m => ((if m then some (ke a0.kk zS) else some false).bind fun n => some n)))) else ((if (!(ke a0.jL zS)) then some true else ((qN a0.B).bind fun d => some (!d))).bind fun o => (if o then some false else (if (a0.Kind == 2) then ((if (jt a0.C (⟨zS, zS⟩ : ja)) then some (ke a0.kk zS) else some false).bind fun p => some p) else (if (a0.Kind == 3) then ((if (jt a0.C (⟨zS, zS⟩ : ja)) then some (ke a0.B.jn a0.Head.jn) else some false).bind fun q => ((if q then ((oP a0.kk).bind fun j => some j) else some false).bind fun s => some s)) else ((if (a0.Kind == 4) then some (ke a0.kk zS) else some false).bind fun t => ((if t then ((qN a0.C).bind fun c => some c) else some false).bind fun g => ((if g then ((wK a0.B a0.C).bind fun a => some a) else some false).bind fun h => some h))))))))))
def pj  : Nat → Int → ByteArray → Option ByteArray
 | 0, _, _ => none
 | n45 + 1, a, c => (if (decide (a ≥ 128)) then ((vv c (vY ([(IntKind.u8.wrap (wi0 .i64 (128 + (Int.tmod a 128))))]))).bind fun d => (pj n45 (wi0 .i64 (Int.tdiv a 128)) d)) else ((vv c (vY ([(IntKind.u8.wrap a)]))).bind fun g => some g))
def nv (a0 : Int) : Option ByteArray :=
 pj jX a0 zS
def rS (a0 : ByteArray) : Option ByteArray :=
 ((nv (a0.size : Int)).bind fun a => ((vv a a0).bind fun c => some c))
def sy (a0 : ja) : Option ByteArray :=
 ((rS a0.jn).bind fun a => ((rS a0.jK).bind fun c => ((vv a c).bind fun d => some d)))
def ua (a0 : jb) : Option ByteArray :=
 ((nv a0.Kind).bind fun g => ((sy a0.Head).bind fun h => ((vv g h).bind fun a => (if (a0.Kind == 1) then ((rS a0.jL).bind fun i => ((vv a i).bind fun n => some n)) else ((sy a0.B).bind fun j => ((vv a j).bind fun c => (((if (a0.Kind == 3) then ((rS a0.kk).bind fun m => ((vv c m).bind fun p => some p)) else some c) : Option ByteArray).bind fun d => (((if (a0.Kind == 4) then ((sy a0.C).bind fun k => ((vv d k).bind fun o => some o)) else some d) : Option ByteArray).bind fun q => some q))))))))
def vH (a0 : jb) : Option ByteArray :=
 ((pK a0).bind fun a => (if (!a) then some zS else ((ua a0).bind fun c => some c)))
def uu (a0 d : jb) : Option Int :=
 ((vH a0).bind fun a => ((vH d).bind fun c => (if (oQ a c) then some (-1) else (if (!(oQ a c || ke a c)) then some 1 else some 0))))
def tb (a : List jb) : List jb → Bool → jb → Option (Bool × jb)
 | [], d, g => some (d, g)
 | c :: h, d, g => ((pK c).bind fun i => ((if i then ((if ((a.length : Int) == 0) then some true else ((kN a (wi0 .i64 ((a.length : Int) - 1))).bind fun q => ((uu q c).bind fun k => some (decide (k < 0))))).bind fun p => some p) else some false).bind fun m => ((if m then ((if (!d) then some true else ((uu c g).bind fun j => some (decide (j < 0)))).bind fun o => some o) else some false).bind fun n => (if n then (tb a h true c) else (tb a h d g)))))
def w7 (a0 : List jb) : Nat → (List jb) → Option (List jb)
 | 0, _ => none
 | d + 1, a => ((tb a a0 false (⟨0, (⟨zS, zS⟩ : ja), zS, (⟨zS, zS⟩ : ja), (⟨zS, zS⟩ : ja), zS⟩ : jb)).bind fun (g, h) => (if (!g) then some a else ((lj 136 a ([h])).bind fun c => (w7 a0 d c))))
def FX (a0 : List jb) : Option (List jb) :=
 w7 a0 jX ([])
def zm (d : jb) : List jb → Option Bool
 | [] => some false
 | c :: a => (if (mV c d) then some true else (zm d a))
def Cq (a0 : List jb) (a : jb) : Option Bool :=
 zm a a0
def th (a : List ByteArray) : List ByteArray → ByteArray → Option ByteArray
 | [], d => some d
 | c :: g, d => ((oP c).bind fun i => ((if i then ((if ((a.length : Int) == 0) then some true else ((kN a (wi0 .i64 ((a.length : Int) - 1))).bind fun h => some (!(oQ c h || ke c h)))).bind fun n => some n) else some false).bind fun j => ((if j then ((if (ke d zS) then some true else some (oQ c d)).bind fun m => some m) else some false).bind fun k => (if k then (th a g c) else (th a g d)))))
def xe (a0 : List ByteArray) : Nat → (List ByteArray) → Option (List ByteArray)
 | 0, _ => none
 | g + 1, a => ((th a a0 zS).bind fun c => (if (ke c zS) then some a else ((lj 16 a ([c])).bind fun d => (xe a0 g d))))
def Cc (a0 : List ByteArray) : Option (List ByteArray) :=
 xe a0 jX ([])
def tH  : List jb → (List ByteArray) → Option (List ByteArray)
 | [], c => ((Cc c).bind fun g => some g)
 | a :: h, c => ((lj 16 c ([a.jL, a.Head.jn, a.B.jn, a.C.jn])).bind fun d => (tH h d))
def Ac (a0 : List jb) : Option (List ByteArray) :=
 tH a0 ([])
def xx (g : ja) (a2 : ByteArray) : List jd → Option Bool
 | [] => some false
 | c :: d => ((if (jt c.ja g) then some (ke c.jL a2) else some false).bind fun a => (if a then some true else (xx g a2 d)))
def sN (a0 : List jd) (a : ja) (a2 : ByteArray) : Option Bool :=
 xx a a2 a0
def wo (a0 : List jd) (i : jb) (a3 : ByteArray) : List ByteArray → Option Bool
 | [] => some false
 | a :: c => ((sN a0 i.B a).bind fun d => ((if d then ((sN a0 (⟨a, i.kk⟩ : ja) a3).bind fun g => some g) else some false).bind fun h => (if h then some true else (wo a0 i a3 c))))
def yH (a0 : List jd) (a : jb) (a2 : List ByteArray) (a3 : ByteArray) : Option Bool :=
 (if (a.Kind == 1) then some (ke a.jL a3) else (if (a.Kind == 2) then ((sN a0 a.B a3).bind fun g => some g) else (if (a.Kind == 4) then ((sN a0 a.B a3).bind fun h => ((if h then ((sN a0 a.C a3).bind fun c => some c) else some false).bind fun d => some d)) else wo a0 a a3 a2)))
def uU (a0 a : jd) : Option Bool :=
 ((wK a0.ja a.ja).bind fun g => ((if g then some true else ((if (jt a0.ja a.ja) then some (oQ a0.jL a.jL) else some false).bind fun d => some d)).bind fun c => some c))
def pe (c a0 : List jd) : List jd → Nat → Int → Option Int
 | [], _, a => some a
 | h :: g, d, a => ((if ((c.length : Int) == 0) then some true else ((kN c (wi0 .i64 ((c.length : Int) - 1))).bind fun p => ((uU p h).bind fun j => some j))).bind fun k => ((if k then ((if (decide (a < 0)) then some true else ((kN a0 a).bind fun o => ((uU h o).bind fun i => some i))).bind fun n => some n) else some false).bind fun m => (if m then (pe c a0 g (d + 1) (d : Int)) else (pe c a0 g (d + 1) a))))
def pc (a0 : List jd) : List jd → (List jd) → Option (List jd)
 | [], a => some a
 | i :: d, a => ((pe a a0 a0 0 (-1)).bind fun c => (if (decide (c ≥ 0)) then ((kN a0 c).bind fun h => ((lj 48 a ([h])).bind fun g => (pc a0 d g))) else (pc a0 d a)))
def CR (a0 : List jd) : Option (List jd) :=
 pc a0 a0 ([])
def vT (c : jb) (n : List ByteArray) : List ByteArray → (List jd) → Bool → Option ((List jd) × Bool)
 | [], a, g => some (a, g)
 | d :: h, a, g => ((sN a c.Head d).bind fun j => ((if (!j) then ((yH a c n d).bind fun k => some k) else some false).bind fun m => (if m then ((lj 48 a ([(⟨c.Head, d⟩ : jd)])).bind fun i => (vT c n h i true)) else (vT c n h a g))))
def xJ (j : List ByteArray) : List jb → (List jd) → Bool → Option ((List jd) × Bool)
 | [], a, c => some (a, c)
 | h :: d, a, c => ((vT h j j a c).bind fun (g, i) => (xJ j d g i))
def xC (i : List ByteArray) (j : List jb) : Nat → (List jd) → Option (List jd)
 | 0, _ => none
 | c + 1, h => ((xJ i j h false).bind fun (a, g) => (if (!g) then ((CR a).bind fun d => some d) else (xC i j c a)))
def AB (a0 : List jb) : Option (List jd) :=
 ((FX a0).bind fun c => ((Ac c).bind fun a => xC a c jX ([])))
def mH (c : Int) : Nat → (List ByteArray) → Int → Int → Option ((List ByteArray) × Int)
 | 0, _, _, _ => none
 | i + 1, a, d, g => (if (decide (g < ((a.length - (Int.toNat c) : Nat) : Int))) then ((((kN (a.drop (Int.toNat c)) g).bind fun k => ((kN (a.drop (Int.toNat c)) (wi0 .i64 (g - 1))).bind fun m => (if (!(ke k m)) then ((kN (a.drop (Int.toNat c)) g).bind fun n => ((kN a d).bind fun o => some ((a.set (Int.toNat d) n), (wi0 .i64 (d + 1))))) else some (a, d)))) : Option ((List ByteArray) × Int)).bind fun (h, j) => (mH c i h j (wi0 .i64 (g + 1)))) else some (a, d))
def mG (a0 : List ByteArray) : Nat → Int → Option (List ByteArray)
 | 0, _ => none
 | g + 1, a => (if (decide (a < (a0.length : Int))) then ((kN a0 a).bind fun h => ((kN a0 (wi0 .i64 (a - 1))).bind fun i => (if (ke h i) then ((me (decide (0 ≤ a) && decide (a ≤ (a0.length : Int)))).bind fun _ => ((mH a jX a0 a 1).bind fun (d, c) => ((me (decide (0 ≤ c) && decide (c ≤ (d.length : Int)))).bind fun _ => ((me (decide (0 ≤ c) && decide (c ≤ ((mM d (Int.toNat c) zS).length : Int)))).bind fun _ => some ((mM d (Int.toNat c) zS).take (Int.toNat c)))))) else (mG a0 g (wi0 .i64 (a + 1)))))) else some a0)
def oZ (a0 : List ByteArray) : Option (List ByteArray) :=
 (if (decide ((a0.length : Int) < 2)) then some a0 else mG a0 jX 1)
def sv  : List ByteArray → (List ByteArray) → Option (List ByteArray)
 | [], a => ((Fk a).bind fun h => ((oZ h).bind fun i => some i))
 | j :: c, a => ((oH j).bind fun g => (if g then ((lj 16 a ([j])).bind fun d => (sv c d)) else (sv c a)))
def xa (a0 : List ByteArray) : Option (List ByteArray) :=
 sv a0 ([])
def rr  : List jb → (List ByteArray) → Option (List ByteArray)
 | [], c => ((xa c).bind fun g => some g)
 | a :: h, c => ((lj 16 c ([a.jL, a.Head.jn, a.B.jn, a.C.jn])).bind fun d => (rr h d))
def xF (a0 : List jb) : Option (List ByteArray) :=
 rr a0 ([])
def nj (f1 : ByteArray → Option Bool) : List ByteArray → Nat → Option Int
 | [], _ => some (-1)
 | d :: a, i35 => ((f1 d).bind fun c => (if c then some (i35 : Int) else (nj f1 a (i35 + 1))))
def sL (a0 : List ByteArray) (f1 : ByteArray → Option Bool) : Option Int :=
 nj f1 a0 0
def re (a0 : List ByteArray) (f1 : ByteArray → Option Bool) : Option Bool :=
 ((sL a0 f1).bind fun a => some (decide (a ≥ 0)))
def sF (a0 : ByteArray) (a : (ja × ByteArray) → Option Bool) (c1 : jb) (c2 : ByteArray) : Option Bool :=
 ((a (c1.B, a0)).bind fun g => ((if g then ((a ((⟨a0, c1.kk⟩ : ja), c2)).bind fun c => some c) else some false).bind fun d => some d))
def wV (a0 : jb) (f1 : (ja × ByteArray) → Option Bool) (a2 : List ByteArray) (a3 : ByteArray) : Option Bool :=
 (if (a0.Kind == 1) then some (ke a0.jL a3) else (if (a0.Kind == 2) then ((f1 (a0.B, a3)).bind fun a => some a) else (if (a0.Kind == 4) then ((f1 (a0.B, a3)).bind fun c => ((if c then ((f1 (a0.C, a3)).bind fun d => some d) else some false).bind fun h => some h)) else ((re a2 (fun (x : ByteArray) => sF x f1 a0 a3)).bind fun g => some g))))
def pS (a0 : jb) (f1 : (ja × ByteArray) → Option Bool) (g : List ByteArray) : List ByteArray → (List jd) → Option (List jd)
 | [], a => some a
 | d :: c, a => ((wV a0 f1 g d).bind fun i => (if i then ((lj 48 a ([(⟨a0.Head, d⟩ : jd)])).bind fun h => (pS a0 f1 g c h)) else (pS a0 f1 g c a)))
def tY (a0 : jb) (f1 : (ja × ByteArray) → Option Bool) (a2 : List ByteArray) : Option (List jd) :=
 ((nU a0).bind fun d => ((if (!d) then some true else some false).bind fun x7 => (if x7 then some [] else ((xa a2).bind fun a => (((if (a0.Kind == 1) then some ([a0.jL]) else some a) : Option (List ByteArray)).bind fun c => pS a0 f1 a c ([]))))))
def tp (a0 : ja) (a : ByteArray) (c : List (jd × Bool)) : Option Bool :=
 some (xb lH c (⟨a0, a⟩ : jd) false)
def oI (g : jb) (j : jd) : List jd → (List jv) → (List (jd × Bool)) → Option ((((List jv) × Bool) ⊕ ((List jv) × (List (jd × Bool)))) ⊕ ((List jv) × (List (jd × Bool))))
 | [], c, a => some (Sum.inr (c, a))
 | d :: h, c, a => (if (xb lH a d false) then (oI g j h c a) else ((lj 184 c ([(⟨g, d⟩ : jv)])).bind fun i => (if (lH d j) then some (Sum.inl (Sum.inl (i, true))) else (oI g j h i (mC lH a d true)))))
def pM (m : List ByteArray) (n : jd) : List jb → (List jv) → (List (jd × Bool)) → Option (((List jv) × Bool) ⊕ ((List jv) × (List (jd × Bool))))
 | [], c, a => some (Sum.inr (c, a))
 | d :: g, c, a => ((tY d (fun (x : (ja × ByteArray)) => tp x.1 x.2 a) m).bind fun k => ((oI d n k c a).bind fun s => match s with | .inl j => some j | .inr (h, i) => (pM m n g h i)))
def pN (k : List ByteArray) (m : jd) (n : List jb) : Nat → (List jv) → Int → (List (jd × Bool)) → Option ((List jv) × Bool)
 | 0, _, _, _ => none
 | h + 1, a, j, c => (if (decide (j < (a.length : Int))) then ((pM k m n a c).bind fun s => match s with | .inl i => some i | .inr (d, g) => (pN k m n h d (a.length : Int) g)) else some ([], false))
def vO (a0 : List jb) (c : jd) : Option ((List jv) × Bool) :=
 ((yy a0).bind fun d => ((xF a0).bind fun a => pN a c d jX ([]) (-1) ([])))
def rp  : List jv → (List jd) → Option (List jd)
 | [], a => some a
 | g :: d, a => ((lj 48 a ([g.jd])).bind fun c => (rp d c))
def ud (a0 : List jv) : Option (List jd) :=
 rp a0 ([])
def pF (d : jd) : List jd → Nat → Option Int
 | [], _ => some (-1)
 | c :: a, i46 => (if (lH d c) then some (i46 : Int) else (pF d a (i46 + 1)))
def we (a0 : List jd) (a : jd) : Option Int :=
 pF a a0 0
def pu (a0 : List jd) (a : jd) : Option Bool :=
 ((we a0 a).bind fun c => some (decide (c ≥ 0)))
def nR (d : jd) : List jd → Nat → Option Int
 | [], _ => some (-1)
 | c :: a, i46 => (if (lH d c) then some (i46 : Int) else (nR d a (i46 + 1)))
def tU (a0 : List jd) (a : jd) : Option Int :=
 nR a a0 0
def pJ (a0 : List jd) (a : jd) : Option Bool :=
 ((tU a0 a).bind fun c => some (decide (c ≥ 0)))
def rj (a0 : List jd) (a : ja) (a2 : ByteArray) : Option Bool :=
 ((pJ a0 (⟨a, a2⟩ : jd)).bind fun c => some c)
def mK (f1 : jd → Option Bool) : List jd → Nat → Option Int
 | [], _ => some (-1)
 | d :: a, i35 => ((f1 d).bind fun c => (if c then some (i35 : Int) else (mK f1 a (i35 + 1))))
def rK (a0 : List jd) (f1 : jd → Option Bool) : Option Int :=
 mK f1 a0 0
def nZ (a0 : List jd) (f1 : jd → Option Bool) : Option Bool :=
 ((rK a0 f1).bind fun a => some (decide (a ≥ 0)))
def sf (a0 : jd) (c : ja) (c1 : List jd) (c2 d : ByteArray) : Option Bool :=
 ((if (jt a0.ja c) then ((rj c1 (⟨a0.jL, c2⟩ : ja) d).bind fun a => some a) else some false).bind fun x7 => some x7)
def wL (a0 : List jd) (c : ja) (a2 a3 : ByteArray) : Option Bool :=
 ((nZ a0 (fun (x : jd) => sf x c a0 a2 a3)).bind fun a => some a)
def sh (a0 : jv) (a : List jd) : Option Bool :=
 ((nU a0.jb).bind fun c => ((if (!c) then some true else some (!(jt a0.jd.ja a0.jb.Head))).bind fun j => (if j then some false else (if (a0.jb.Kind == 1) then some (ke a0.jb.jL a0.jd.jL) else (if (a0.jb.Kind == 2) then ((rj a a0.jb.B a0.jd.jL).bind fun d => some d) else (if (a0.jb.Kind == 3) then ((wL a a0.jb.B a0.jb.kk a0.jd.jL).bind fun g => some g) else ((rj a a0.jb.B a0.jd.jL).bind fun h => ((if h then ((rj a a0.jb.C a0.jd.jL).bind fun i => some i) else some false).bind fun k => some k))))))))
def qL (d : List jd) : List jv → Nat → Option Bool
 | [], _ => some true
 | g :: a, i98 => ((me (decide (0 ≤ (i98 : Int)) && decide ((i98 : Int) ≤ (d.length : Int)))).bind fun _ => ((sh g (d.take (Int.toNat (i98 : Int)))).bind fun c => (if (!c) then some false else (qL d a (i98 + 1)))))
def uX (a0 : List jv) : Option Bool :=
 ((ud a0).bind fun a => qL a a0 0)
def pq (a0 : List jv) : Option (List jv) :=
 ((lj 184 ([]) a0).bind fun a => some a)
def qk (a0 : List jv) (a a2 : Int) : Option (List jv) :=
 ((me (decide (0 ≤ a ∧ a ≤ a2 ∧ a2 ≤ (a0.length : Int) ∧ (a0.length : Int) ≤ (a0.length : Int)))).bind fun _ => (if (a == a2) then some a0 else ((me (decide (0 ≤ a) && decide (a ≤ (a0.length : Int)))).bind fun _ => ((me (decide (0 ≤ a2) && decide (a2 ≤ (a0.length : Int)))).bind fun _ => ((me (decide ((Int.toNat a) ≤ (Int.toNat a2) ∧ (Int.toNat a2) ≤ a0.length))).bind fun c => ((me (decide (0 ≤ ((a0.take (Int.toNat a) ++ a0.drop (Int.toNat a2)).length : Int) ∧ ((a0.take (Int.toNat a) ++ a0.drop (Int.toNat a2)).length : Int) ≤ (a0.length : Int) ∧ (a0.length : Int) = ((Ao a0 (Int.toNat a) (Int.toNat a2)).length : Int) ∧ ((a0.take (Int.toNat a) ++ a0.drop (Int.toNat a2)).length : Int) = ((a0.take (Int.toNat a) ++ a0.drop (Int.toNat a2)).length : Int)))).bind fun _ => some ((mM (Ao a0 (Int.toNat a) (Int.toNat a2)) (Int.toNat ((a0.take (Int.toNat a) ++ a0.drop (Int.toNat a2)).length : Int)) (⟨(⟨0, (⟨zS, zS⟩ : ja), zS, (⟨zS, zS⟩ : ja), (⟨zS, zS⟩ : ja), zS⟩ : jb), (⟨(⟨zS, zS⟩ : ja), zS⟩ : jd)⟩ : jv)).take (a0.take (Int.toNat a) ++ a0.drop (Int.toNat a2)).length)))))))
def rn (a0 : List jv) : Nat → Int → Option (Bool ⊕ Unit)
 | 0, _ => none
 | c + 1, a => (if (decide (a < (if 0 > (wi0 .i64 ((a0.length : Int) - 1)) then 0 else (wi0 .i64 ((a0.length : Int) - 1))))) then ((pq a0).bind fun d => ((qk d a (wi0 .i64 (a + 1))).bind fun g => ((uX g).bind fun h => (if h then some (Sum.inl false) else (rn a0 c (wi0 .i64 (a + 1))))))) else some (Sum.inr ()))
def ru (i : List jd) (a0 : List jv) : List jd → Nat → Option Bool
 | [], _ => ((uX a0).bind fun g => (if (!g) then some false else ((rn a0 jX 0).bind fun s => match s with | .inl c => some c | .inr _ => some true)))
 | h :: a, i100 => ((me (decide (0 ≤ (i100 : Int)) && decide ((i100 : Int) ≤ (i.length : Int)))).bind fun _ => ((pu (i.take (Int.toNat (i100 : Int))) h).bind fun d => (if d then some false else (ru i a0 a (i100 + 1)))))
def xw (a0 : List jv) : Option Bool :=
 ((ud a0).bind fun a => ru a a0 a 0)
def qI  : List jv → (List jd) → Option Bool
 | [], a => some true
 | g :: h, a => ((sh g a).bind fun d => (if (!d) then some false else ((lj 48 a ([g.jd])).bind fun c => (qI h c))))
def wZ (a0 : List jv) : Option Bool :=
 qI a0 ([])
def nI  : Nat → (List jv) → Int → Option (List jv)
 | 0, _, _ => none
 | h + 1, c, a => (if (decide (a ≥ 0)) then ((((pq c).bind fun i => ((qk i a (wi0 .i64 (a + 1))).bind fun d => ((wZ d).bind fun j => (if j then some d else some c)))) : Option (List jv)).bind fun g => (nI h g (wi0 .i64 (a - 1)))) else some c)
def oR  : Nat → (List jv) → Option (List jv)
 | 0, _ => none
 | d + 1, a => ((xw a).bind fun g => (if (!g) then ((nI jX a (wi0 .i64 ((a.length : Int) - 2))).bind fun c => (oR d c)) else some a))
def uR (a0 : List jv) : Option (List jv) :=
 oR jX a0
def uV (a0 : List jb) (d : jd) : Option ((List jv) × Bool) :=
 ((vO a0 d).bind fun c => (if (!c.2) then some ([], false) else ((uR c.1).bind fun a => some (a, true))))
def J7 (a0 : List jb) (c : ByteArray) : Option ((List (ja × (List (ByteArray × Bool)))) × (List jb) × (List (ja × (List jb))) × (List (ByteArray × (List jb))) × (List jd) × Int × ByteArray) :=
 ((vt a0).bind fun a => some (a.1, a.2.1, a.2.2.1, a.2.2.2.1, a.2.2.2.2.1, a.2.2.2.2.2, c))
def uI (f1 : ot → Option Bool) : List ot → Nat → Option Int
 | [], _ => some (-1)
 | d :: a, i47 => ((f1 d).bind fun c => (if c then some (i47 : Int) else (uI f1 a (i47 + 1))))
def Aq (a0 : List ot) (f1 : ot → Option Bool) : Option Int :=
 uI f1 a0 0
def Hb (a0 : ot) (a : jb) : Option Bool :=
 some (mV a0.Signed.jb a)
def JE (a0 : mD) (d : jb) : Option (ot × Bool) :=
 ((Aq a0.w6 (fun (x : ot) => Hb x d)).bind fun a => (if (decide (a < 0)) then some ((⟨(⟨(⟨0, (⟨zS, zS⟩ : ja), zS, (⟨zS, zS⟩ : ja), (⟨zS, zS⟩ : ja), zS⟩ : jb), []⟩ : Signed), (⟨0, 0, (⟨zS, zS⟩ : ja), []⟩ : Formula)⟩ : ot), false) else ((kN a0.w6 a).bind fun c => some (c, true))))
def EK (a0 : List vk) : Option (List vk) :=
 ((lj 128 ([]) a0).bind fun a => some a)
def wu (f1 : vk → Option Bool) : List vk → Nat → Option Int
 | [], _ => some (-1)
 | d :: a, i47 => ((f1 d).bind fun c => (if c then some (i47 : Int) else (wu f1 a (i47 + 1))))
def Ct (a0 : List vk) (f1 : vk → Option Bool) : Option Int :=
 wu f1 a0 0
def vN (f1 : vk → Option Bool) : Nat → (List vk) → Int → Int → Option (List vk)
 | 0, _, _, _ => none
 | i + 1, c, a, d => (if (decide (d < (c.length : Int))) then ((((kN c d).bind fun g => ((f1 g).bind fun j => (if (!j) then ((kN c a).bind fun m => some ((c.set (Int.toNat a) g), (wi0 .i64 (a + 1)))) else some (c, a)))) : Option ((List vk) × Int)).bind fun (h, k) => (vN f1 i h k (wi0 .i64 (d + 1)))) else ((me (decide (0 ≤ a) && decide (a ≤ (c.length : Int)))).bind fun _ => ((me (decide (0 ≤ a) && decide (a ≤ ((mM c (Int.toNat a) (⟨(⟨zS, zS⟩ : ja), (⟨0, 0, (⟨zS, zS⟩ : ja), []⟩ : Formula), []⟩ : vk)).length : Int)))).bind fun _ => some ((mM c (Int.toNat a) (⟨(⟨zS, zS⟩ : ja), (⟨0, 0, (⟨zS, zS⟩ : ja), []⟩ : Formula), []⟩ : vk)).take (Int.toNat a)))))
def Bv (a0 : List vk) (f1 : vk → Option Bool) : Option (List vk) :=
 ((Ct a0 f1).bind fun a => (if (a == (-1)) then some a0 else vN f1 jX a0 a (wi0 .i64 (a + 1))))
def Gx (a0 : vk) (a : jb) : Option Bool :=
 ((xd a0.Fe a).bind fun c => some (!c))
def IU (a0 : mD) (c : jb) : Option (List vk) :=
 ((EK a0.A8).bind fun d => ((Bv d (fun (x : vk) => Gx x c)).bind fun a => some a))
def oK (h : Int) (rec : Formula → Int → Option (Int × Int)) : List Formula → Int → Int → Option (Int × Int)
 | [], a, d => some (a, d)
 | i :: g, a, d => (if (decide (a > h)) then some (a, d) else ((rec i (wi0 .i64 (h - a))).bind fun c => (oK h rec g (wi0 .i64 (a + c.1)) (if c.2 > d then c.2 else d))))
def vr (rec : Formula → Int → Option (Int × Int)) (a0 : Formula) (d : Int) : Option (Int × Int) :=
 ((oK d rec a0.Kids 1 0).bind fun (a, c) => some (a, (wi0 .i64 (c + 1))))
def nx : Nat → Formula → Int → Option (Int × Int)
 | 0 => fun _ _ => none
 | n + 1 => vr (nx n)
def w4 (a0 : Formula) : Option (Int × Int) :=
 ((nx jX a0 4096).bind fun a => (if (decide (a.1 > 4096)) then some (0, 0) else some (a.1, a.2)))
def wW (a0 : Formula) : Option Bool :=
 (if (a0.Op == 1) then ((nS a0.ja).bind fun g => ((if g then some ((a0.Kids.length : Int) == 0) else some false).bind fun h => ((if h then some (a0.K == 0) else some false).bind fun i => some i))) else ((if (a0.Op == 2) then some (a0.Op == 2) else some (a0.Op == 3)).bind fun j => (if j then ((if (jt a0.ja (⟨zS, zS⟩ : ja)) then some (a0.K == 0) else some false).bind fun k => some k) else ((if (a0.Op == 4) then some (jt a0.ja (⟨zS, zS⟩ : ja)) else some false).bind fun m => ((if m then some (decide (a0.K ≥ 0)) else some false).bind fun a => ((if a then some (decide (a0.K ≤ (a0.Kids.length : Int))) else some false).bind fun c => ((if c then some (decide ((a0.Kids.length : Int) ≥ 1)) else some false).bind fun d => some d)))))))
def mi (f1 : Formula → Option Bool) : List Formula → Nat → Option Int
 | [], _ => some (-1)
 | d :: a, i41 => ((f1 d).bind fun c => (if c then some (i41 : Int) else (mi f1 a (i41 + 1))))
def sw (a0 : List Formula) (f1 : Formula → Option Bool) : Option Int :=
 mi f1 a0 0
def mY (a0 : List Formula) (f1 : Formula → Option Bool) : Option Bool :=
 ((sw a0 f1).bind fun a => some (decide (a ≥ 0)))
def ui (rec : Formula → Option Bool) (a0 : Formula) : Option Bool :=
 ((rec a0).bind fun a => some (!a))
def vx (rec : Formula → Option Bool) (a0 : Formula) : Option Bool :=
 ((wW a0).bind fun d => ((if d then some (decide ((a0.Kids.length : Int) ≤ 8)) else some false).bind fun g => ((if g then ((mY a0.Kids (fun (x : Formula) => ui rec x)).bind fun a => some (!a)) else some false).bind fun c => some c)))
def qy : Nat → Formula → Option Bool
 | 0 => fun _ => none
 | n + 1 => vx (qy n)
def po (a0 : Formula) : Option Bool :=
 ((w4 a0).bind fun c => ((if (decide (c.1 ≥ 1)) then some (decide (c.1 ≤ 64)) else some false).bind fun h => ((if h then some (decide (c.2 ≤ 6)) else some false).bind fun d => ((if d then ((qy jX a0).bind fun a => some a) else some false).bind fun g => some g))))
def zp (a0 : Formula) (a : Int) : Option Bool :=
 ((if (a0.Op == a) then some ((a0.Kids.length : Int) == 0) else some false).bind fun x6 => some x6)
def G6  : Option Formula :=
 some (⟨2, 0, (⟨zS, zS⟩ : ja), []⟩ : Formula)
def HJ  : Option Formula :=
 some (⟨3, 0, (⟨zS, zS⟩ : ja), []⟩ : Formula)
def xV (a0 : Int) : List Formula → (List Formula) → Option (List Formula)
 | [], a => some a
 | c :: d, a => (if (c.Op == a0) then ((lj 72 a c.Kids).bind fun g => (xV a0 d g)) else ((lj 72 a ([c])).bind fun h => (xV a0 d h)))
def I1 (a0 : Int) (a : List Formula) : Option (List Formula) :=
 xV a0 a ([])
def AD (a0 : Formula) (a : Int) : Option Bool :=
 ((zp a0 a).bind fun c => some c)
def Co (a0 : List Formula) : Option (List Formula) :=
 ((lj 72 ([]) a0).bind fun a => some a)
def qw (p : Int) (f3 : (Formula × Formula) → Option Int) : Nat → (List Formula) → Int → Option (List Formula)
 | 0, _, _ => none
 | h + 1, c, a => ((if (decide (a > p)) then ((kN c a).bind fun k => ((kN c (wi0 .i64 (a - 1))).bind fun m => ((f3 (k, m)).bind fun i => some (decide (i < 0))))) else some false).bind fun j => (if j then ((kN c (wi0 .i64 (a - 1))).bind fun g => ((kN c a).bind fun d => ((kN c a).bind fun n => ((kN (c.set (Int.toNat a) g) (wi0 .i64 (a - 1))).bind fun o => (qw p f3 h ((c.set (Int.toNat a) g).set (Int.toNat (wi0 .i64 (a - 1))) (⟨d.Op, d.K, d.ja, d.Kids⟩ : Formula)) (wi0 .i64 (a - 1))))))) else some c))
def qj (a2 h : Int) (f3 : (Formula × Formula) → Option Int) : Nat → (List Formula) → Int → Option (List Formula)
 | 0, _, _ => none
 | g + 1, c, a => (if (decide (a < a2)) then ((qw h f3 jX c a).bind fun d => (qj a2 h f3 g d (wi0 .i64 (a + 1)))) else some c)
def rA (a0 : List Formula) (a a2 : Int) (f3 : (Formula × Formula) → Option Int) : Option (List Formula) :=
 qj a2 a f3 jX a0 (wi0 .i64 (a + 1))
def rT (a3 a2 h : Int) : Nat → (List Formula) → Int → Option (List Formula)
 | 0, _, _ => none
 | i + 1, c, a => (if (decide (a < a3)) then ((kN c (wi0 .i64 (a2 + a))).bind fun g => ((kN c (wi0 .i64 (h + a))).bind fun d => ((kN c (wi0 .i64 (h + a))).bind fun j => ((kN (c.set (Int.toNat (wi0 .i64 (h + a))) g) (wi0 .i64 (a2 + a))).bind fun k => (rT a3 a2 h i ((c.set (Int.toNat (wi0 .i64 (h + a))) g).set (Int.toNat (wi0 .i64 (a2 + a))) (⟨d.Op, d.K, d.ja, d.Kids⟩ : Formula)) (wi0 .i64 (a + 1))))))) else some c)
def py (a0 : List Formula) (a a2 a3 : Int) (f4 : (Formula × Formula) → Option Int) : Option (List Formula) :=
 rT a3 a2 a jX a0 0
def pE (a2 : Int) (f4 : (Formula × Formula) → Option Int) : Nat → (List Formula) → Int → Int → Option (List Formula)
 | 0, _, _, _ => none
 | n185 + 1, d, a, c => (if (a != c) then (if (decide (a > c)) then ((py d (wi0 .i64 (a2 - a)) a2 c f4).bind fun g => (pE a2 f4 n185 g (wi0 .i64 (a - c)) c)) else ((py d (wi0 .i64 (a2 - a)) (wi0 .i64 ((wi0 .i64 (a2 + c)) - a)) a f4).bind fun h => (pE a2 f4 n185 h a (wi0 .i64 (c - a))))) else ((py d (wi0 .i64 (a2 - a)) a2 a f4).bind fun i => some i))
def yi (a0 : List Formula) (a a2 a3 : Int) (f4 : (Formula × Formula) → Option Int) : Option (List Formula) :=
 pE a2 f4 jX a0 (wi0 .i64 (a2 - a)) (wi0 .i64 (a3 - a2))
def so (h : Int) : Nat → (List Formula) → Int → Option (List Formula)
 | 0, _, _ => none
 | i + 1, c, a => (if (decide (a < (wi0 .i64 (h - 1)))) then ((kN c (wi0 .i64 (a + 1))).bind fun g => ((kN c a).bind fun d => ((kN c a).bind fun j => ((kN (c.set (Int.toNat a) g) (wi0 .i64 (a + 1))).bind fun k => (so h i ((c.set (Int.toNat a) g).set (Int.toNat (wi0 .i64 (a + 1))) (⟨d.Op, d.K, d.ja, d.Kids⟩ : Formula)) (wi0 .i64 (a + 1))))))) else some c)
def oS (a0 : List Formula) (j : Int) (f4 : (Formula × Formula) → Option Int) : Nat → Int → Int → Option (List Formula)
 | 0, _, _ => none
 | n325 + 1, a, c => (if (decide (a < c)) then ((kN a0 (wi0 .i64 (Int.fdiv (IntKind.u64.wrap (wi0 .i64 (a + c))) (2 ^ min (Int.toNat 1) (IntKind.bits .u64))))).bind fun h => ((kN a0 j).bind fun i => ((f4 (h, i)).bind fun g => (if (decide (g < 0)) then (oS a0 j f4 n325 (wi0 .i64 ((wi0 .i64 (Int.fdiv (IntKind.u64.wrap (wi0 .i64 (a + c))) (2 ^ min (Int.toNat 1) (IntKind.bits .u64)))) + 1)) c) else (oS a0 j f4 n325 a (wi0 .i64 (Int.fdiv (IntKind.u64.wrap (wi0 .i64 (a + c))) (2 ^ min (Int.toNat 1) (IntKind.bits .u64))))))))) else ((so a jX a0 j).bind fun d => some d))
def sk (g : Int) : Nat → (List Formula) → Int → Option (List Formula)
 | 0, _, _ => none
 | i + 1, c, a => (if (decide (a > g)) then ((kN c (wi0 .i64 (a - 1))).bind fun h => ((kN c a).bind fun d => ((kN c a).bind fun j => ((kN (c.set (Int.toNat a) h) (wi0 .i64 (a - 1))).bind fun k => (sk g i ((c.set (Int.toNat a) h).set (Int.toNat (wi0 .i64 (a - 1))) (⟨d.Op, d.K, d.ja, d.Kids⟩ : Formula)) (wi0 .i64 (a - 1))))))) else some c)
def oX (a0 : List Formula) (a2 : Int) (f4 : (Formula × Formula) → Option Int) : Nat → Int → Int → Option (List Formula)
 | 0, _, _ => none
 | d + 1, a, c => (if (decide (a < c)) then ((kN a0 a2).bind fun i => ((kN a0 (wi0 .i64 (Int.fdiv (IntKind.u64.wrap (wi0 .i64 (a + c))) (2 ^ min (Int.toNat 1) (IntKind.bits .u64))))).bind fun j => ((f4 (i, j)).bind fun h => (if (!(decide (h < 0))) then (oX a0 a2 f4 d (wi0 .i64 ((wi0 .i64 (Int.fdiv (IntKind.u64.wrap (wi0 .i64 (a + c))) (2 ^ min (Int.toNat 1) (IntKind.bits .u64)))) + 1)) c) else (oX a0 a2 f4 d a (wi0 .i64 (Int.fdiv (IntKind.u64.wrap (wi0 .i64 (a + c))) (2 ^ min (Int.toNat 1) (IntKind.bits .u64))))))))) else ((sk a jX a0 a2).bind fun g => some g))
def oT (a0 : List Formula) (d a3 a2 : Int) (f4 : (Formula × Formula) → Option Int) (rec : (List Formula) → Int → Int → Int → ((Formula × Formula) → Option Int) → Option (List Formula)) : Nat → Int → Int → Option (List Formula)
 | 0, _, _ => none
 | i + 1, a, c => (if (decide (a < c)) then ((kN a0 (wi0 .i64 ((wi0 .i64 ((wi0 .i64 ((wi0 .i64 (Int.fdiv (IntKind.u64.wrap (wi0 .i64 (d + a3))) (2 ^ min (Int.toNat 1) (IntKind.bits .u64)))) + a2)) - 1)) - (wi0 .i64 (Int.fdiv (IntKind.u64.wrap (wi0 .i64 (a + c))) (2 ^ min (Int.toNat 1) (IntKind.bits .u64))))))).bind fun o => ((kN a0 (wi0 .i64 (Int.fdiv (IntKind.u64.wrap (wi0 .i64 (a + c))) (2 ^ min (Int.toNat 1) (IntKind.bits .u64))))).bind fun p => ((f4 (o, p)).bind fun j => (if (!(decide (j < 0))) then (oT a0 d a3 a2 f4 rec i (wi0 .i64 ((wi0 .i64 (Int.fdiv (IntKind.u64.wrap (wi0 .i64 (a + c))) (2 ^ min (Int.toNat 1) (IntKind.bits .u64)))) + 1)) c) else (oT a0 d a3 a2 f4 rec i a (wi0 .i64 (Int.fdiv (IntKind.u64.wrap (wi0 .i64 (a + c))) (2 ^ min (Int.toNat 1) (IntKind.bits .u64))))))))) else ((((if (decide (a < a2)) then some (decide (a2 < (wi0 .i64 ((wi0 .i64 ((wi0 .i64 (Int.fdiv (IntKind.u64.wrap (wi0 .i64 (d + a3))) (2 ^ min (Int.toNat 1) (IntKind.bits .u64)))) + a2)) - a)))) else some false).bind fun t => (if t then ((yi a0 a a2 (wi0 .i64 ((wi0 .i64 ((wi0 .i64 (Int.fdiv (IntKind.u64.wrap (wi0 .i64 (d + a3))) (2 ^ min (Int.toNat 1) (IntKind.bits .u64)))) + a2)) - a)) f4).bind fun n => some n) else some a0)) : Option (List Formula)).bind fun g => ((((if (decide (d < a)) then some (decide (a < (wi0 .i64 (Int.fdiv (IntKind.u64.wrap (wi0 .i64 (d + a3))) (2 ^ min (Int.toNat 1) (IntKind.bits .u64)))))) else some false).bind fun s => (if s then ((rec g d a (wi0 .i64 (Int.fdiv (IntKind.u64.wrap (wi0 .i64 (d + a3))) (2 ^ min (Int.toNat 1) (IntKind.bits .u64)))) f4).bind fun m => some m) else some g)) : Option (List Formula)).bind fun h => ((if (decide ((wi0 .i64 (Int.fdiv (IntKind.u64.wrap (wi0 .i64 (d + a3))) (2 ^ min (Int.toNat 1) (IntKind.bits .u64)))) < (wi0 .i64 ((wi0 .i64 ((wi0 .i64 (Int.fdiv (IntKind.u64.wrap (wi0 .i64 (d + a3))) (2 ^ min (Int.toNat 1) (IntKind.bits .u64)))) + a2)) - a)))) then some (decide ((wi0 .i64 ((wi0 .i64 ((wi0 .i64 (Int.fdiv (IntKind.u64.wrap (wi0 .i64 (d + a3))) (2 ^ min (Int.toNat 1) (IntKind.bits .u64)))) + a2)) - a)) < a3)) else some false).bind fun q => (if q then ((rec h (wi0 .i64 (Int.fdiv (IntKind.u64.wrap (wi0 .i64 (d + a3))) (2 ^ min (Int.toNat 1) (IntKind.bits .u64)))) (wi0 .i64 ((wi0 .i64 ((wi0 .i64 (Int.fdiv (IntKind.u64.wrap (wi0 .i64 (d + a3))) (2 ^ min (Int.toNat 1) (IntKind.bits .u64)))) + a2)) - a)) a3 f4).bind fun k => some k) else some h)))))
def wA (rec : (List Formula) → Int → Int → Int → ((Formula × Formula) → Option Int) → Option (List Formula)) (a0 : List Formula) (a a2 a3 : Int) (f4 : (Formula × Formula) → Option Int) : Option (List Formula) :=
 (if ((wi0 .i64 (a2 - a)) == 1) then oS a0 a f4 jX a2 a3 else (if ((wi0 .i64 (a3 - a2)) == 1) then oX a0 a2 f4 jX a a2 else (((if (decide (a2 > (wi0 .i64 (Int.fdiv (IntKind.u64.wrap (wi0 .i64 (a + a3))) (2 ^ min (Int.toNat 1) (IntKind.bits .u64)))))) then some ((wi0 .i64 ((wi0 .i64 ((wi0 .i64 (Int.fdiv (IntKind.u64.wrap (wi0 .i64 (a + a3))) (2 ^ min (Int.toNat 1) (IntKind.bits .u64)))) + a2)) - a3)), (wi0 .i64 (Int.fdiv (IntKind.u64.wrap (wi0 .i64 (a + a3))) (2 ^ min (Int.toNat 1) (IntKind.bits .u64))))) else some (a, a2)) : Option (Int × Int)).bind fun (c, d) => oT a0 a a3 a2 f4 rec jX c d)))
def pQ : Nat → (List Formula) → Int → Int → Int → ((Formula × Formula) → Option Int) → Option (List Formula)
 | 0 => fun _ _ _ _ _ => none
 | n + 1 => wA (pQ n)
def sV (j c : Int) (f2 : (Formula × Formula) → Option Int) : Nat → (List Formula) → Int → Int → Option ((List Formula) × Int)
 | 0, _, _, _ => none
 | h + 1, g, d, a => (if (decide (a ≤ j)) then ((pQ jX g d (wi0 .i64 (d + c)) a f2).bind fun i => (sV j c f2 h i a (wi0 .i64 (a + (wi0 .i64 (2 * c)))))) else some (g, d))
def sU (k : Int) (f2 : (Formula × Formula) → Option Int) : Nat → (List Formula) → Int → Option (List Formula)
 | 0, _, _ => none
 | i + 1, d, a => (if (decide (a < k)) then ((sV k a f2 jX d 0 (wi0 .i64 (2 * a))).bind fun (g, c) => (((if (decide ((wi0 .i64 (c + a)) < k)) then ((pQ jX g c (wi0 .i64 (c + a)) k f2).bind fun j => some j) else some g) : Option (List Formula)).bind fun h => (sU k f2 i h (wi0 .i64 (a * 2))))) else some d)
def sX (j : Int) (f2 : (Formula × Formula) → Option Int) : Nat → (List Formula) → Int → Int → Option (List Formula)
 | 0, _, _, _ => none
 | n123 + 1, d, i, a => (if (decide (a ≤ j)) then ((rA d i a f2).bind fun g => (sX j f2 n123 g a (wi0 .i64 (a + 20)))) else ((rA d i j f2).bind fun h => ((sU j f2 jX h 20).bind fun c => some c)))
def yE (a0 : List Formula) (a : Int) (f2 : (Formula × Formula) → Option Int) : Option (List Formula) :=
 sX a f2 jX a0 0 20
def ye (a0 : List Formula) (f1 : (Formula × Formula) → Option Int) : Option (List Formula) :=
 ((yE a0 (a0.length : Int) f1).bind fun a => some a)
def zL (rec : (List Int) → Formula → Option (List Int)) : List Formula → (List Int) → Option (List Int)
 | [], a => some a
 | g :: c, a => ((rec a g).bind fun d => (zL rec c d))
def DA (rec : (List Int) → Formula → Option (List Int)) (c : List Int) (a : Formula) : Option (List Int) :=
 ((kX c a.Op).bind fun i => (if (a.Op == 1) then ((nm i.2 a.ja).bind fun h => some h.2) else (((if (a.Op == 4) then ((kX i.2 a.K).bind fun d => some d.2) else some i.2) : Option (List Int)).bind fun g => ((kX g (a.Kids.length : Int)).bind fun j => zL rec a.Kids j.2))))
def BM : Nat → (List Int) → Formula → Option (List Int)
 | 0 => fun _ _ => none
 | n + 1 => DA (BM n)
def Hf (a : List Int) (c : Formula) : Option (Bool × (List Int)) :=
 ((po c).bind fun d => (if (!d) then some (false, a) else ((BM jX a c).bind fun g => some (true, g))))
def Ay (a0 : Formula) : Option (List Int) :=
 ((Hf ([]) a0).bind fun c => ((mT c.2).bind fun a => some a))
def FC (a0 g : Formula) : Option Int :=
 ((Ay a0).bind fun a => ((Ay g).bind fun c => ((yR a c).bind fun d => some d)))
def CQ (a0 : List Formula) : Option (List Formula) :=
 ((Co a0).bind fun c => ((ye c (fun (x : (Formula × Formula)) => FC x.1 x.2)).bind fun a => some a))
def tR (c : Int) (f1 : (Formula × Formula) → Option Bool) : Nat → (List Formula) → Int → Int → Option ((List Formula) × Int)
 | 0, _, _, _ => none
 | i + 1, a, d, g => (if (decide (g < ((a.length - (Int.toNat c) : Nat) : Int))) then ((((kN (a.drop (Int.toNat c)) g).bind fun m => ((kN (a.drop (Int.toNat c)) (wi0 .i64 (g - 1))).bind fun n => ((f1 (m, n)).bind fun j => (if (!j) then ((kN (a.drop (Int.toNat c)) g).bind fun o => ((kN a d).bind fun p => some ((a.set (Int.toNat d) o), (wi0 .i64 (d + 1))))) else some (a, d))))) : Option ((List Formula) × Int)).bind fun (h, k) => (tR c f1 i h k (wi0 .i64 (g + 1)))) else some (a, d))
def tQ (a0 : List Formula) (f1 : (Formula × Formula) → Option Bool) : Nat → Int → Option (List Formula)
 | 0, _ => none
 | g + 1, a => (if (decide (a < (a0.length : Int))) then ((kN a0 a).bind fun i => ((kN a0 (wi0 .i64 (a - 1))).bind fun j => ((f1 (i, j)).bind fun h => (if h then ((me (decide (0 ≤ a) && decide (a ≤ (a0.length : Int)))).bind fun _ => ((tR a f1 jX a0 a 1).bind fun (d, c) => ((me (decide (0 ≤ c) && decide (c ≤ (d.length : Int)))).bind fun _ => ((me (decide (0 ≤ c) && decide (c ≤ ((mM d (Int.toNat c) (⟨0, 0, (⟨zS, zS⟩ : ja), []⟩ : Formula)).length : Int)))).bind fun _ => some ((mM d (Int.toNat c) (⟨0, 0, (⟨zS, zS⟩ : ja), []⟩ : Formula)).take (Int.toNat c)))))) else (tQ a0 f1 g (wi0 .i64 (a + 1))))))) else some a0)
def zr (a0 : List Formula) (f1 : (Formula × Formula) → Option Bool) : Option (List Formula) :=
 (if (decide ((a0.length : Int) < 2)) then some a0 else tQ a0 f1 jX 1)
def mr (h : List Formula) (f2 : (Formula × Formula) → Option Bool) : List Formula → Nat → Option Bool
 | [], _ => some true
 | g :: d, i95 => ((kN h (i95 : Int)).bind fun c => ((f2 (g, c)).bind fun a => (if (!a) then some false else (mr h f2 d (i95 + 1)))))
def qe (a0 a : List Formula) (f2 : (Formula × Formula) → Option Bool) : Option Bool :=
 (if ((a0.length : Int) != (a.length : Int)) then some false else mr a f2 a0 0)
def Eb (rec : Formula → Formula → Option Bool) (a0 a : Formula) : Option Bool :=
 ((if (a0.Op == a.Op) then some (a0.K == a.K) else some false).bind fun d => ((if d then some (jt a0.ja a.ja) else some false).bind fun g => ((if g then ((qe a0.Kids a.Kids (fun (x : (Formula × Formula)) => rec x.1 x.2)).bind fun c => some c) else some false).bind fun h => some h)))
def CH : Nat → Formula → Formula → Option Bool
 | 0 => fun _ _ => none
 | n + 1 => Eb (CH n)
def tB (a0 : lG) (d : Int) (a2 : List Formula) : Option (Formula × lG) :=
 ((I1 d a2).bind fun j => ((mY j (fun (x : Formula) => AD x (wi0 .i64 (5 - d)))).bind fun g => (if g then some ((⟨(wi0 .i64 (5 - d)), 0, (⟨zS, zS⟩ : ja), []⟩ : Formula), a0) else ((CQ j).bind fun h => ((zr h (fun (x : (Formula × Formula)) => CH jX x.1 x.2)).bind fun a => (((if (decide ((a.length : Int) > 64)) then some (⟨12⟩ : lG) else some a0) : Option lG).bind fun c => (if ((a.length : Int) == 1) then ((kN a 0).bind fun i => some (i, c)) else some ((⟨d, 0, (⟨zS, zS⟩ : ja), a⟩ : Formula), c))))))))
def oU (a0 : lG) : List Formula → Int → (List Formula) → Option (Formula × lG)
 | [], c, a => (if (decide (c ≤ 0)) then (G6.bind fun n => some (n, a0)) else (if (decide (c > (a.length : Int))) then (HJ.bind fun o => some (o, a0)) else (if (c == (a.length : Int)) then ((tB a0 2 a).bind fun h => some (h.1, h.2)) else (if (c == 1) then ((tB a0 3 a).bind fun i => some (i.1, i.2)) else ((CQ a).bind fun p => some ((⟨4, c, (⟨zS, zS⟩ : ja), p⟩ : Formula), a0))))))
 | g :: d, c, a => ((zp g 2).bind fun k => (if k then (oU a0 d (wi0 .i64 (c - 1)) a) else ((zp g 3).bind fun m => (if (!m) then ((lj 72 a ([g])).bind fun j => (oU a0 d c j)) else (oU a0 d c a)))))
def AF (a0 : lG) (a : Int) (a2 : List Formula) : Option (Formula × lG) :=
 oU a0 a2 a ([])
def vQ (rec : lG → Formula → Option (Formula × lG)) (m : Formula) : List Formula → (List Formula) → lG → Option (Formula × lG)
 | [], a, c => (if (m.Op == 4) then ((AF c m.K a).bind fun g => some (g.1, g.2)) else ((tB c m.Op a).bind fun h => some (h.1, h.2)))
 | k :: i, a, c => ((rec c k).bind fun d => ((lj 72 a ([d.1])).bind fun j => (vQ rec m i j d.2)))
def zy (rec : lG → Formula → Option (Formula × lG)) (a0 : lG) (a : Formula) : Option (Formula × lG) :=
 (if (a.Op == 1) then some (a, a0) else vQ rec a a.Kids ([]) a0)
def xi : Nat → lG → Formula → Option (Formula × lG)
 | 0 => fun _ _ => none
 | n + 1 => zy (xi n)
def FW (a0 : Formula) : Option (Formula × Int) :=
 ((po a0).bind fun g => (if (!g) then some ((⟨0, 0, (⟨zS, zS⟩ : ja), []⟩ : Formula), 11) else ((xi jX (⟨0⟩ : lG) a0).bind fun a => ((if (a.2.e != 0) then some true else ((po a.1).bind fun c => some (!c))).bind fun d => (if d then some ((⟨0, 0, (⟨zS, zS⟩ : ja), []⟩ : Formula), 12) else some (a.1, 0))))))
def IN (a0 c : Formula) : Option (Formula × Int) :=
 ((FW (⟨2, 0, (⟨zS, zS⟩ : ja), [a0, c]⟩ : Formula)).bind fun a => some (a.1, a.2))
def CA  : List Formula → Int → Int → Int → ja → (List Formula) → Option (Int × Int × Int × ja × (List Formula))
 | [], d, g, h, i, c => some (d, g, h, i, c)
 | k :: j, d, g, h, i, c => (if (d != 0) then some (d, g, h, i, c) else ((IN (⟨g, h, i, c⟩ : Formula) k).bind fun a => (CA j a.2 ((a.1).Op) ((a.1).K) ((a.1).ja) ((a.1).Kids))))
def Lk (a0 : List Formula) : Option (Formula × Int) :=
 ((kN a0 0).bind fun x6 => ((FW x6).bind fun a => ((me (decide (0 ≤ 1) && decide (1 ≤ (a0.length : Int)))).bind fun _ => ((CA (a0.drop (Int.toNat 1)) a.2 ((a.1).Op) ((a.1).K) ((a.1).ja) ((a.1).Kids)).bind fun (c, g, h, i, d) => (if (c != 0) then some ((⟨0, 0, (⟨zS, zS⟩ : ja), []⟩ : Formula), c) else some ((⟨g, h, i, d⟩ : Formula), 0))))))
def DP  : List vk → (List Formula) → Option (Formula × Int)
 | [], a => ((Lk a).bind fun c => some (c.1, c.2))
 | h :: d, a => ((lj 72 a ([h.lI])).bind fun g => (DP d g))
def ND (a0 : mD) (d : jb) : Option (Formula × Int) :=
 ((JE a0 d).bind fun a => (if (!a.2) then some ((⟨0, 0, (⟨zS, zS⟩ : ja), []⟩ : Formula), 42) else ((IU a0 d).bind fun c => DP c ([(a.1).lI]))))
def oJ (rec : Formula → (ja → Option Bool) → Option Bool) (f1 : ja → Option Bool) (a0 : Formula) : List Formula → Int → Option Bool
 | [], a => (if (a0.Op == 2) then some (a == (a0.Kids.length : Int)) else (if (a0.Op == 3) then some (decide (a > 0)) else some (decide (a ≥ a0.K))))
 | g :: c, a => ((rec g f1).bind fun d => (if d then (oJ rec f1 a0 c (wi0 .i64 (a + 1))) else (oJ rec f1 a0 c a)))
def vu (rec : Formula → (ja → Option Bool) → Option Bool) (a0 : Formula) (f1 : ja → Option Bool) : Option Bool :=
 (if (a0.Op == 1) then ((f1 a0.ja).bind fun a => some a) else oJ rec f1 a0 a0.Kids 0)
def pn : Nat → Formula → (ja → Option Bool) → Option Bool
 | 0 => fun _ _ => none
 | n + 1 => vu (pn n)
def tf (a0 : Formula) (f1 : ja → Option Bool) : Option Bool :=
 ((po a0).bind fun d => ((if d then ((pn jX a0 f1).bind fun a => some a) else some false).bind fun c => some c))
def Hh (a0 : ja) (h : List (ja × (List (ByteArray × Bool)))) (a : List jb) (g : List (ja × (List jb))) (c : List (ByteArray × (List jb))) (d : List jd) (i : Int) (c1 : ByteArray) : Option Bool :=
 ((rl h a g c d i a0 c1).bind fun j => some j)
def yD (a0 : mD) (d : ((List (ja × (List (ByteArray × Bool)))) × (List jb) × (List (ja × (List jb))) × (List (ByteArray × (List jb))) × (List jd) × Int × ByteArray)) : List ot → (List jb) → Option (List jb)
 | [], a => ((yy a).bind fun j => some j)
 | g :: c, a => ((ND a0 g.Signed.jb).bind fun r417 => ((if (r417.2 == 0) then ((tf r417.1 (fun (x : ja) => Hh x d.1 d.2.1 d.2.2.1 d.2.2.2.1 d.2.2.2.2.1 d.2.2.2.2.2.1 d.2.2.2.2.2.2)).bind fun i => some i) else some false).bind fun k => (if k then ((lj 136 a ([g.Signed.jb])).bind fun h => (yD a0 d c h)) else (yD a0 d c a))))
def EA (a0 : mD) (a : List jb) (a2 : ByteArray) : Option (List jb) :=
 ((J7 a a2).bind fun c => yD a0 c a0.w6 ([]))
def CD (a0 k : mD) : Nat → (List jb) → (List jb) → Int → Option ((List jb) × (List jb) × Int)
 | 0, _, _, _ => none
 | i + 1, a, c, h => ((EA a0 c k.Name).bind fun d => ((EA k a a0.Name).bind fun g => ((if ((d.length : Int) == (a.length : Int)) then some ((g.length : Int) == (c.length : Int)) else some false).bind fun j => (if j then some (a, c, h) else (CD a0 k i d g (wi0 .i64 (h + 1)))))))
def Li (a0 a : mD) : Option ((List jb) × (List jb) × Int) :=
 CD a0 a jX ([]) ([]) 0
def tw (rec : Formula → Option Int) : List Formula → Int → Option Int
 | [], a => some a
 | g :: d, a => ((rec g).bind fun c => (tw rec d (wi0 .i64 (a + c))))
def zW (rec : Formula → Option Int) (a0 : Formula) : Option Int :=
 tw rec a0.Kids 1
def vA : Nat → Formula → Option Int
 | 0 => fun _ => none
 | n + 1 => zW (vA n)
def uk (rec : Formula → Option Int) : List Formula → Int → Option Int
 | [], a => some (wi0 .i64 (a + 1))
 | g :: d, a => ((rec g).bind fun c => (uk rec d (if c > a then c else a)))
def Aw (rec : Formula → Option Int) (a0 : Formula) : Option Int :=
 uk rec a0.Kids 0
def wC : Nat → Formula → Option Int
 | 0 => fun _ => none
 | n + 1 => Aw (wC n)
def ux (rec : Formula → Option Bool) : List Formula → Option Bool
 | [] => some true
 | d :: a => ((rec d).bind fun c => (if (!c) then some false else (ux rec a)))
def Au (rec : Formula → Option Bool) (a0 : Formula) : Option Bool :=
 (if (a0.Op == 1) then ((qN a0.ja).bind fun o => ((if o then some ((a0.Kids.length : Int) == 0) else some false).bind fun h => ((if h then some (a0.K == 0) else some false).bind fun i => some i))) else ((if (decide (a0.Op < 1)) then some true else some (decide (a0.Op > 4))).bind fun j => ((if j then some true else some (!(jt a0.ja (⟨zS, zS⟩ : ja)))).bind fun k => ((if k then some true else some (decide ((a0.Kids.length : Int) > 8))).bind fun m => (if m then some false else ((if (decide (a0.Op < 4)) then some (a0.K != 0) else some false).bind fun n => ((if n then some true else ((if (a0.Op == 4) then ((if (decide ((a0.Kids.length : Int) < 1)) then some true else some (decide (a0.K < 0))).bind fun d => ((if d then some true else some (decide (a0.K > (a0.Kids.length : Int)))).bind fun g => some g)) else some false).bind fun c => some c)).bind fun a => (if a then some false else ux rec a0.Kids))))))))
def wN : Nat → Formula → Option Bool
 | 0 => fun _ => none
 | n + 1 => Au (wN n)
def Af (a0 : Formula) : Option Bool :=
 ((vA jX a0).bind fun h => ((if (decide (h ≤ 64)) then ((wC jX a0).bind fun c => some (decide (c ≤ 6))) else some false).bind fun d => ((if d then ((wN jX a0).bind fun a => some a) else some false).bind fun g => some g)))
def zl (d : ja) : List ja → Option Bool
 | [] => some false
 | c :: a => (if (jt c d) then some true else (zl d a))
def Ce (a0 : List ja) (a : ja) : Option Bool :=
 zl a a0
def si (rec : Formula → (List ja) → Option Bool) (g : List ja) (a0 : Formula) : List Formula → Int → Option Bool
 | [], a => (if (a0.Op == 2) then some (a == (a0.Kids.length : Int)) else (if (a0.Op == 3) then some (decide (a > 0)) else some (decide (a ≥ a0.K))))
 | h :: c, a => ((rec h g).bind fun d => (if d then (si rec g a0 c (wi0 .i64 (a + 1))) else (si rec g a0 c a)))
def Av (rec : Formula → (List ja) → Option Bool) (a0 : Formula) (a : List ja) : Option Bool :=
 (if (a0.Op == 1) then ((Ce a a0.ja).bind fun c => some c) else si rec a a0 a0.Kids 0)
def wF : Nat → Formula → (List ja) → Option Bool
 | 0 => fun _ _ => none
 | n + 1 => Av (wF n)
def IF (a0 d : mD) : Option ((List jb) × (List (ja × (List (ByteArray × Bool)))) × (List jb) × (List (ja × (List jb))) × (List (ByteArray × (List jb))) × (List jd) × Int × ByteArray) :=
 ((Li a0 d).bind fun c => ((vt c.2.1).bind fun a => some (c.2.1, a.1, a.2.1, a.2.2.1, a.2.2.2.1, a.2.2.2.2.1, a.2.2.2.2.2, d.Name)))
def Gg (a0 : ja) (h : List (ja × (List (ByteArray × Bool)))) (a : List jb) (g : List (ja × (List jb))) (c : List (ByteArray × (List jb))) (d : List jd) (j : Int) (i : ByteArray) (k : List ot) (m : List vk) : Option Bool :=
 ((rl h a g c d j a0 i).bind fun n => some n)
def Hm (a0 c : mD) (a2 : Formula) : Option Bool :=
 ((IF a0 c).bind fun a => ((tf a2 (fun (x : ja) => Gg x a.2.1 a.2.2.1 a.2.2.2.1 a.2.2.2.2.1 a.2.2.2.2.2.1 a.2.2.2.2.2.2.1 a.2.2.2.2.2.2.2 c.w6 c.A8)).bind fun d => some d))
def BW (a0 : Al) : Option ((List (ja × (List (ByteArray × Bool)))) × (List jb) × (List (ja × (List jb))) × (List (ByteArray × (List jb))) × (List jd) × Int × ByteArray × ByteArray × Int) :=
 ((vt a0.ph).bind fun a => some (a.1, a.2.1, a.2.2.1, a.2.2.2.1, a.2.2.2.2.1, a.2.2.2.2.2, a0.mD.Name, a0.Ae, a0.Room))
def wO (a0 : ja) (i : List (ja × (List (ByteArray × Bool)))) (a : List jb) (g : List (ja × (List jb))) (c : List (ByteArray × (List jb))) (d : List jd) (o : Int) (k : ByteArray) (h : List ot) (j : List vk) (m : ByteArray) (t : Int) (n s : List jb) (p q : List ja) : Option Bool :=
 ((rl i a g c d o a0 m).bind fun u => some u)
def qT (a0 : List ja) : Option (List ja) :=
 ((lj 32 ([]) a0).bind fun a => some a)
def lq (f1 : ja → Option Bool) : List ja → Nat → Option Int
 | [], _ => some (-1)
 | d :: a, i35 => ((f1 d).bind fun c => (if c then some (i35 : Int) else (lq f1 a (i35 + 1))))
def nC (a0 : List ja) (f1 : ja → Option Bool) : Option Int :=
 lq f1 a0 0
def mB (f1 : ja → Option Bool) : Nat → (List ja) → Int → Int → Option (List ja)
 | 0, _, _, _ => none
 | n321 + 1, c, a, d => (if (decide (d < (c.length : Int))) then ((((kN c d).bind fun g => ((f1 g).bind fun i => (if (!i) then ((kN c a).bind fun k => some ((c.set (Int.toNat a) g), (wi0 .i64 (a + 1)))) else some (c, a)))) : Option ((List ja) × Int)).bind fun (h, j) => (mB f1 n321 h j (wi0 .i64 (d + 1)))) else ((me (decide (0 ≤ a) && decide (a ≤ (c.length : Int)))).bind fun _ => ((me (decide (0 ≤ a) && decide (a ≤ ((mM c (Int.toNat a) (⟨zS, zS⟩ : ja)).length : Int)))).bind fun _ => some ((mM c (Int.toNat a) (⟨zS, zS⟩ : ja)).take (Int.toNat a)))))
def qf (a0 : List ja) (f1 : ja → Option Bool) : Option (List ja) :=
 ((nC a0 f1).bind fun a => (if (a == (-1)) then some a0 else mB f1 jX a0 a (wi0 .i64 (a + 1))))
def xH (a0 : ja) : Option Bool :=
 ((nS a0).bind fun a => some (!a))
def nk (c : Int) : Nat → (List ja) → Int → Int → Option ((List ja) × Int)
 | 0, _, _, _ => none
 | i + 1, a, d, g => (if (decide (g < ((a.length - (Int.toNat c) : Nat) : Int))) then ((((kN (a.drop (Int.toNat c)) g).bind fun k => ((kN (a.drop (Int.toNat c)) (wi0 .i64 (g - 1))).bind fun m => (if (!(jt k m)) then ((kN (a.drop (Int.toNat c)) g).bind fun n => ((kN a d).bind fun o => some ((a.set (Int.toNat d) n), (wi0 .i64 (d + 1))))) else some (a, d)))) : Option ((List ja) × Int)).bind fun (h, j) => (nk c i h j (wi0 .i64 (g + 1)))) else some (a, d))
def nt (a0 : List ja) : Nat → Int → Option (List ja)
 | 0, _ => none
 | g + 1, a => (if (decide (a < (a0.length : Int))) then ((kN a0 a).bind fun h => ((kN a0 (wi0 .i64 (a - 1))).bind fun i => (if (jt h i) then ((me (decide (0 ≤ a) && decide (a ≤ (a0.length : Int)))).bind fun _ => ((nk a jX a0 a 1).bind fun (d, c) => ((me (decide (0 ≤ c) && decide (c ≤ (d.length : Int)))).bind fun _ => ((me (decide (0 ≤ c) && decide (c ≤ ((mM d (Int.toNat c) (⟨zS, zS⟩ : ja)).length : Int)))).bind fun _ => some ((mM d (Int.toNat c) (⟨zS, zS⟩ : ja)).take (Int.toNat c)))))) else (nt a0 g (wi0 .i64 (a + 1)))))) else some a0)
def sn (a0 : List ja) : Option (List ja) :=
 (if (decide ((a0.length : Int) < 2)) then some a0 else nt a0 jX 1)
def AG (a0 : List ja) : Option (List ja) :=
 ((qT a0).bind fun g => ((qf g (fun (x : ja) => xH x)).bind fun a => ((w8 (fun (x : (ja × ja)) => mq x.1 x.2) a).bind fun c => ((sn c).bind fun d => some d))))
def pB (g : List ja) : List ja → Nat → Option Bool
 | [], _ => some true
 | d :: c, i90 => ((kN g (i90 : Int)).bind fun a => (if (!(jt d a)) then some false else (pB g c (i90 + 1))))
def tM (a0 a : List ja) : Option Bool :=
 (if ((a0.length : Int) != (a.length : Int)) then some false else pB a a0 0)
def uh (g : List ja) : List ja → Nat → Option Bool
 | [], _ => some true
 | d :: c, i90 => ((kN g (i90 : Int)).bind fun a => (if (!(jt d a)) then some false else (uh g c (i90 + 1))))
def yV (a0 a : List ja) : Option Bool :=
 (if ((a0.length : Int) != (a.length : Int)) then some false else uh a a0 0)
def rG (c : Int) : Option (List jv) :=
 (if (decide (c < 0)) then none else (((if (decide ((wi0 .i64 (c - (wi0 .i64 (0 - 0)))) > 0)) then ((Hs 184 (⟨(⟨0, (⟨zS, zS⟩ : ja), zS, (⟨zS, zS⟩ : ja), (⟨zS, zS⟩ : ja), zS⟩ : jb), (⟨(⟨zS, zS⟩ : ja), zS⟩ : jd)⟩ : jv) (wi0 .i64 (c - (wi0 .i64 (0 - 0))))).bind fun a => ((me (decide (0 ≤ 0) && decide (0 ≤ (a.length : Int)))).bind fun _ => some (a.take (Int.toNat 0)))) else some ([])) : Option (List jv)).bind fun d => some d))
def nH  : List (List jv) → (List jv) → Option (List jv)
 | [], a => some a
 | g :: c, a => ((lj 184 a g).bind fun d => (nH c d))
def nE (a0 : List (List jv)) : List (List jv) → Int → Option (List jv)
 | [], a => ((rG a).bind fun h => ((nH a0 h).bind fun c => some c))
 | d :: g, a => (if (decide ((wi0 .i64 (a + (d.length : Int))) < 0)) then none else (nE a0 g (wi0 .i64 (a + (d.length : Int)))))
def vz (a0 : List (List jv)) : Option (List jv) :=
 nE a0 a0 0
def pU  : List jv → (List (jd × Bool)) → (List jv) → Option (List jv)
 | [], a, c => some c
 | g :: d, a, c => (if (!(xb lH a g.jd false)) then ((lj 184 c ([g])).bind fun h => (pU d (mC lH a g.jd true) h)) else (pU d a c))
def xK (a0 : List (List jv)) : Option (List jv) :=
 ((vz a0).bind fun a => pU a ([]) ([]))
def uw (g : List jv) : List jv → Nat → Option Bool
 | [], _ => some true
 | d :: c, i90 => ((kN g (i90 : Int)).bind fun a => (if (!(AU d a)) then some false else (uw g c (i90 + 1))))
def yq (a0 a : List jv) : Option Bool :=
 (if ((a0.length : Int) != (a.length : Int)) then some false else uw a a0 0)
def tJ  : List jv → (List jd) → Option (List jd)
 | [], a => some a
 | g :: d, a => ((lj 48 a ([g.jd])).bind fun c => (tJ d c))
def vS (a0 : List jv) : Option (List jd) :=
 tJ a0 ([])
def tq  : List jd → (List ByteArray) → Option (List ByteArray)
 | [], a => some a
 | g :: d, a => ((lj 16 a ([g.jL])).bind fun c => (tq d c))
def DZ (a0 : List jd) : Option (List ByteArray) :=
 tq a0 ([])
def yG (a0 : jv) (i : List jd) : Option Bool :=
 ((pK a0.jb).bind fun a => ((if a then some (jt a0.jd.ja a0.jb.Head) else some false).bind fun g => ((if g then ((DZ i).bind fun c => ((yH i a0.jb c a0.jd.jL).bind fun d => some d)) else some false).bind fun h => some h)))
def tD (n : List jb) (a0 : List jv) (a2 : jd) : List jv → Nat → Option (Int × Int)
 | [], _ => ((vS a0).bind fun j => ((sN j a2.ja a2.jL).bind fun k => (if (!k) then some ((a0.length : Int), 42) else some ((a0.length : Int), 0))))
 | c :: d, a => ((Cq n c.jb).bind fun g => ((if (!g) then some true else ((me (decide (0 ≤ (a : Int)) && decide ((a : Int) ≤ (a0.length : Int)))).bind fun _ => ((vS (a0.take (Int.toNat (a : Int)))).bind fun h => ((yG c h).bind fun i => some (!i))))).bind fun m => (if m then some ((a : Int), 50) else (tD n a0 a2 d (a + 1)))))
def DM (a0 : List jv) (a : List jb) (a2 : jd) : Option (Int × Int) :=
 tD a a0 a2 a0 0
def rz (k : List jb) (j : List jd) (a2 : jd) (a0 : List jv) : List jv → Nat → Option (Int × Int)
 | [], _ => ((pu j a2).bind fun h => (if (!h) then some ((a0.length : Int), 42) else some ((a0.length : Int), 0)))
 | a :: c, i339 => ((xd k a.jb).bind fun d => ((if (!d) then some true else ((me (decide (0 ≤ (i339 : Int)) && decide ((i339 : Int) ≤ (j.length : Int)))).bind fun _ => ((sh a (j.take (Int.toNat (i339 : Int)))).bind fun g => some (!g)))).bind fun i => (if i then some ((i339 : Int), 50) else (rz k j a2 a0 c (i339 + 1)))))
def vJ (a0 : List jv) (a : List jb) (a2 : jd) : Option (Int × Int) :=
 ((ud a0).bind fun c => rz a c a2 a0 a0 0)
def tA  : List jv → Int → Option Int
 | [], a => some a
 | c :: g, a => ((vK ([c.jb])).bind fun d => (tA g (wi0 .i64 (a + (wi0 .i64 ((wi0 .i64 ((wi0 .i64 (d + (c.jd.jL.size : Int))) + (c.jd.ja.jn.size : Int))) + (c.jd.ja.jK.size : Int)))))))
def Ap (a0 : List jv) : Option Int :=
 tA a0 0
def pW (rec : Formula → Option (List ja)) : List Formula → (List ja) → Option (List ja)
 | [], a => some a
 | h :: c, a => ((rec h).bind fun g => ((lj 32 a g).bind fun d => (pW rec c d)))
def vn (rec : Formula → Option (List ja)) (a0 : Formula) : Option (List ja) :=
 (if (a0.Op == 1) then some [a0.ja] else pW rec a0.Kids ([]))
def qi : Nat → Formula → Option (List ja)
 | 0 => fun _ => none
 | n + 1 => vn (qi n)
def uv (a0 : Formula) : Option (List ja) :=
 ((qi jX a0).bind fun c => ((AG c).bind fun a => some a))
def pA (d : ja) : List ja → Nat → Option Int
 | [], _ => some (-1)
 | c :: a, i46 => (if (jt d c) then some (i46 : Int) else (pA d a (i46 + 1)))
def wc (a0 : List ja) (a : ja) : Option Int :=
 pA a a0 0
def uC (a0 : List ja) (a : ja) : Option Bool :=
 ((wc a0 a).bind fun c => some (decide (c ≥ 0)))
def AK (a0 : List ja) (a : ja) : Option Bool :=
 ((uC a0 a).bind fun c => some c)
def oN (g : Int) : List ja → Nat → (List ja) → Option (List ja)
 | [], _, a => some a
 | h :: c, i72, a => ((me (decide (0 ≤ (i72 : Int)))).bind fun _ => (if ((wi0 .i64 (BitVec.ofInt (IntKind.bits .i64) (Int.fdiv g (2 ^ min (Int.toNat (i72 : Int)) (IntKind.bits .i64))) &&& BitVec.ofInt (IntKind.bits .i64) 1).toNat) == 1) then ((lj 32 a ([h])).bind fun d => (oN g c (i72 + 1) d)) else (oN g c (i72 + 1) a)))
def sA (a0 : List ja) (a : Int) : Option (List ja) :=
 oN a a0 0 ([])
def oG (a0 : ja) (a : List ja) : Option Bool :=
 ((AK a a0).bind fun c => some c)
def oa (a0 : Formula) (a : List ja) : Option Bool :=
 ((tf a0 (fun (x : ja) => oG x a)).bind fun c => some c)
def qC (c : Nat) (g : List Bool) (h : Bool) : List ja → Nat → Bool → Option Bool
 | [], _, d => some d
 | n :: i, a, d => ((if d then some true else ((me (decide (0 ≤ (a : Int)))).bind fun _ => ((if ((wi0 .i64 (BitVec.ofInt (IntKind.bits .i64) (Int.fdiv (c : Int) (2 ^ min (Int.toNat (a : Int)) (IntKind.bits .i64))) &&& BitVec.ofInt (IntKind.bits .i64) 1).toNat) == 1) then ((me (decide (0 ≤ (a : Int)))).bind fun _ => ((kN (g.set (Int.toNat (c : Int)) h) (wi0 .i64 (BitVec.ofInt (IntKind.bits .i64) (c : Int) &&& ~~~ BitVec.ofInt (IntKind.bits .i64) (wi0 .i64 (1 * 2 ^ min (Int.toNat (a : Int)) (IntKind.bits .i64)))).toNat)).bind fun m => some m)) else some false).bind fun k => some k))).bind fun j => (qC c g h i (a + 1) j))
def qg (o : List ja) (a0 : Formula) : List Bool → Nat → (List Bool) → (List Int) → Option (List Int)
 | [], _, c, d => some d
 | p :: h, a, c, d => ((sA o (a : Int)).bind fun j => ((oa a0 j).bind fun g => ((kN c (a : Int)).bind fun q => ((qC a c g o 0 false).bind fun k => ((kN (c.set (Int.toNat (a : Int)) g) (a : Int)).bind fun m => ((if m then some (!k) else some false).bind fun n => (if n then ((lj 8 d ([(a : Int)])).bind fun i => (qg o a0 h (a + 1) (c.set (Int.toNat (a : Int)) g) i)) else (qg o a0 h (a + 1) (c.set (Int.toNat (a : Int)) g) d))))))))
def yF (a0 : Formula) (a : List ja) : Option (List Int) :=
 ((me (decide (0 ≤ (a.length : Int)))).bind fun _ => ((E4 1 false (wi0 .i64 (1 * 2 ^ min (Int.toNat (a.length : Int)) (IntKind.bits .i64)))).bind fun c => qg a a0 c 0 c ([])))
def yB (a0 : Int) : Option Bool :=
 some (a0 != a0)
def xk (a0 a : Int) : Option Int :=
 ((yB a0).bind fun d => ((yB a).bind fun c => (if d then (if c then some 0 else some (-1)) else (if c then some 1 else (if (decide (a0 < a)) then some (-1) else (if (decide (a0 > a)) then some 1 else some 0))))))
def kM (g : List ja) (f2 : (ja × ja) → Option Int) (a0 : List ja) : List ja → Nat → Option Int
 | [], _ => (if (decide ((a0.length : Int) < (g.length : Int))) then some (-1) else some 0)
 | h :: d, i75 => (if (decide ((i75 : Int) ≥ (g.length : Int))) then some 1 else ((kN g (i75 : Int)).bind fun c => ((f2 (h, c)).bind fun a => (if (a != 0) then some a else (kM g f2 a0 d (i75 + 1))))))
def lW (a0 a : List ja) (f2 : (ja × ja) → Option Int) : Option Int :=
 kM a f2 a0 a0 0
def ta (a0 a : List ja) : Option Int :=
 ((xk (a0.length : Int) (a.length : Int)).bind fun c => ((lW a0 a (fun (x : (ja × ja)) => mq x.1 x.2)).bind fun d => ((tl ([c, d])).bind fun g => some g)))
def uq (j : List ja) : List Int → (List (List ja)) → Option ((List (List ja)) × Int)
 | [], a => (if (decide ((a.length : Int) > 128)) then some ([], 12) else ((FA (fun (x : ((List ja) × (List ja))) => ta x.1 x.2) a).bind fun h => some (h, 0)))
 | i :: c, a => ((sA j i).bind fun g => ((lj 24 a ([g])).bind fun d => (uq j c d)))
def yA (a0 : Formula) : Option ((List (List ja)) × Int) :=
 ((po a0).bind fun d => (if (!d) then some ([], 11) else ((uv a0).bind fun c => (if (decide ((c.length : Int) > 12)) then some ([], 12) else ((yF a0 c).bind fun a => uq c a ([]))))))
def mF (a0 : List ja) (f1 : ja → Option Bool) : Option Bool :=
 ((nC a0 f1).bind fun a => some (decide (a ≥ 0)))
def wx (a0 : ja) (a : ja → Option Bool) : Option Bool :=
 ((a a0).bind fun c => some (!c))
def wv (f1 : ja → Option Bool) : List (List ja) → Option ((List ja) × Bool)
 | [] => some ([], false)
 | c :: d => ((mF c (fun (x : ja) => wx x f1)).bind fun a => (if (!a) then some (c, true) else (wv f1 d)))
def yx (a0 : Formula) (f1 : ja → Option Bool) : Option ((List ja) × Bool) :=
 ((yA a0).bind fun a => ((if (a.2 != 0) then some true else some false).bind fun c => (if c then some ([], false) else wv f1 a.1)))
structure jx where
 b : List Int
 kQ : Bool
def tF (a c : List Int) : Option (Bool × (List Int)) :=
 ((lj 1 a c).bind fun d => some (true, d))
def sH (c : List Int) (a : Bool) : Option Bool :=
 some a
def kZ (a0 : jx) (a : Int) : Option (Int ⊕ Unit) :=
 ((if (!a0.kQ) then some (a != 0) else some false).bind fun x2 => (if x2 then some (Sum.inl a) else some (Sum.inr ())))
def sO (a0 : jx) (p : Int) : Option (Int ⊕ (Int × jx)) :=
 (((if (p == 9) then ((kZ a0 11).bind fun m => match m with | .inl h => some (Sum.inl (Sum.inl h)) | .inr u => some (Sum.inr ())) else some (Sum.inr ())) : Option ((Int ⊕ (Int × jx)) ⊕ Unit)).bind fun s => match s with | .inl i => some i | .inr _ => (((if ((a0.b.length : Int) == 0) then ((kZ a0 10).bind fun k => match k with | .inl d => some (Sum.inl (Sum.inl d)) | .inr t => some (Sum.inr ())) else some (Sum.inr ())) : Option ((Int ⊕ (Int × jx)) ⊕ Unit)).bind fun s => match s with | .inl g => some g | .inr _ => ((kN a0.b 0).bind fun o => ((me (decide (0 ≤ 1) && decide (1 ≤ (a0.b.length : Int)))).bind fun _ => ((((if (o == 0) then some (decide (p > 0)) else some false).bind fun n => (if n then ((kZ (⟨(a0.b.drop (Int.toNat 1)), a0.kQ⟩ : jx) 11).bind fun j => match j with | .inl a => some (Sum.inl (Sum.inl a)) | .inr q => some (Sum.inr ())) else some (Sum.inr ()))) : Option ((Int ⊕ (Int × jx)) ⊕ Unit)).bind fun s => match s with | .inl c => some c | .inr _ => some (Sum.inr (o, (⟨(a0.b.drop (Int.toNat 1)), a0.kQ⟩ : jx))))))))
def mj (o : Int) : Nat → Int → Int → (List Int) → Bool → Option (Int ⊕ (Int × jx))
 | 0, _, _, _, _ => none
 | n161 + 1, d, c, g, n => ((sO (⟨g, n⟩ : jx) c).bind fun m => match m with | .inl h => some (Sum.inl h) | .inr a => ((me (decide (0 ≤ (wi0 .i64 (7 * c))))).bind fun _ => (if (decide (a.1 < 128)) then (((if (decide ((wi0 .i64 (BitVec.ofInt (IntKind.bits .i64) d ||| BitVec.ofInt (IntKind.bits .i64) (wi0 .i64 ((wi0 .i64 (IntKind.u8.wrap (BitVec.ofInt (IntKind.bits .u8) a.1 &&& BitVec.ofInt (IntKind.bits .u8) 127).toNat)) * 2 ^ min (Int.toNat (wi0 .i64 (7 * c))) (IntKind.bits .i64)))).toNat) > o)) then ((kZ a.2 12).bind fun k => match k with | .inl i => some (Sum.inl (Sum.inl i)) | .inr p => some (Sum.inr ())) else some (Sum.inr ())) : Option ((Int ⊕ (Int × jx)) ⊕ Unit)).bind fun s => match s with | .inl j => some j | .inr _ => some (Sum.inr ((wi0 .i64 (BitVec.ofInt (IntKind.bits .i64) d ||| BitVec.ofInt (IntKind.bits .i64) (wi0 .i64 ((wi0 .i64 (IntKind.u8.wrap (BitVec.ofInt (IntKind.bits .u8) a.1 &&& BitVec.ofInt (IntKind.bits .u8) 127).toNat)) * 2 ^ min (Int.toNat (wi0 .i64 (7 * c))) (IntKind.bits .i64)))).toNat), a.2))) else (mj o n161 (wi0 .i64 (BitVec.ofInt (IntKind.bits .i64) d ||| BitVec.ofInt (IntKind.bits .i64) (wi0 .i64 ((wi0 .i64 (IntKind.u8.wrap (BitVec.ofInt (IntKind.bits .u8) a.1 &&& BitVec.ofInt (IntKind.bits .u8) 127).toNat)) * 2 ^ min (Int.toNat (wi0 .i64 (7 * c))) (IntKind.bits .i64)))).toNat) (wi0 .i64 (c + 1)) ((a.2).b) ((a.2).kQ)))))
def lA (a0 : jx) (a : Int) : Option (Int ⊕ (Int × jx)) :=
 ((sH a0.b a0.kQ).bind fun c => (if c then some (Sum.inr (0, a0)) else mj a jX 0 0 a0.b a0.kQ))
def sM (a0 : jx) (o : Int) : Option (Int ⊕ ((List Int) × jx)) :=
 ((sH a0.b a0.kQ).bind fun p => (if p then some (Sum.inr ([], a0)) else ((lA a0 9223372036854775807).bind fun j => match j with | .inl k => some (Sum.inl k) | .inr a => (((if (decide (a.1 > o)) then ((kZ a.2 12).bind fun h => match h with | .inl c => some (Sum.inl (Sum.inl c)) | .inr q => some (Sum.inr ())) else (if (decide (a.1 > (((a.2).b).length : Int))) then ((kZ a.2 10).bind fun i => match i with | .inl d => some (Sum.inl (Sum.inl d)) | .inr n => some (Sum.inr ())) else some (Sum.inr ()))) : Option ((Int ⊕ ((List Int) × jx)) ⊕ Unit)).bind fun s => match s with | .inl g => some g | .inr _ => ((me (decide (0 ≤ a.1) && decide (a.1 ≤ (((a.2).b).length : Int)))).bind fun _ => ((nW (((a.2).b).take (Int.toNat a.1))).bind fun m => ((me (decide (0 ≤ a.1) && decide (a.1 ≤ (((a.2).b).length : Int)))).bind fun _ => some (Sum.inr (m, (⟨(((a.2).b).drop (Int.toNat a.1)), (a.2).kQ⟩ : jx))))))))))
def rR (a0 : jx) : Option (Int ⊕ (ByteArray × jx)) :=
 ((sM a0 16).bind fun i => match i with | .inl c => some (Sum.inl c) | .inr a => ((oH (vY a.1)).bind fun g => (if (!g) then ((kZ a.2 30).bind fun h => match h with | .inl d => some (Sum.inl d) | .inr j => some (Sum.inr (zS, a.2))) else some (Sum.inr ((vY a.1), a.2)))))
def qp (a0 : jx) : Option (Int ⊕ (ja × jx)) :=
 ((rR a0).bind fun h => match h with | .inl c => some (Sum.inl c) | .inr i => ((rR i.2).bind fun g => match g with | .inl d => some (Sum.inl d) | .inr a => some (Sum.inr ((⟨i.1, a.1⟩ : ja), a.2))))
def yN (a0 : jx) : Option (Int ⊕ (jb × jx)) :=
 ((lA a0 9223372036854775807).bind fun R => match R with | .inl U => some (Sum.inl U) | .inr c => ((((if (decide (c.1 < 1)) then some true else some (decide (c.1 > 4))).bind fun T => (if T then ((kZ c.2 11).bind fun Q => match Q with | .inl z => some (Sum.inl (Sum.inl z)) | .inr Z => some (Sum.inr ())) else some (Sum.inr ()))) : Option ((Int ⊕ (jb × jx)) ⊕ Unit)).bind fun s => match s with | .inl A => some A | .inr _ => ((qp c.2).bind fun P => match P with | .inl W => some (Sum.inl W) | .inr a => (((if (c.1 == 1) then ((rR a.2).bind fun G => match G with | .inl q => some (Sum.inl (Sum.inl q)) | .inr g => some (Sum.inr ((⟨c.1, a.1, g.1, (⟨zS, zS⟩ : ja), (⟨zS, zS⟩ : ja), zS⟩ : jb), ((g.2).b), ((g.2).kQ)))) else (if (c.1 == 2) then ((qp a.2).bind fun I => match I with | .inl t => some (Sum.inl (Sum.inl t)) | .inr h => some (Sum.inr ((⟨c.1, a.1, zS, h.1, (⟨zS, zS⟩ : ja), zS⟩ : jb), ((h.2).b), ((h.2).kQ)))) else (if (c.1 == 3) then ((qp a.2).bind fun L => match L with | .inl u => some (Sum.inl (Sum.inl u)) | .inr m => ((rR m.2).bind fun J => match J with | .inl v => some (Sum.inl (Sum.inl v)) | .inr i => some (Sum.inr ((⟨c.1, a.1, zS, m.1, (⟨zS, zS⟩ : ja), i.1⟩ : jb), ((i.2).b), ((i.2).kQ))))) else (if (c.1 == 4) then ((qp a.2).bind fun O => match O with | .inl w => some (Sum.inl (Sum.inl w)) | .inr n => ((qp n.2).bind fun M => match M with | .inl x => some (Sum.inl (Sum.inl x)) | .inr j => some (Sum.inr ((⟨c.1, a.1, zS, n.1, j.1, zS⟩ : jb), ((j.2).b), ((j.2).kQ))))) else some (Sum.inr ((⟨c.1, a.1, zS, (⟨zS, zS⟩ : ja), (⟨zS, zS⟩ : ja), zS⟩ : jb), ((a.2).b), ((a.2).kQ))))))) : Option ((Int ⊕ (jb × jx)) ⊕ (jb × (List Int) × Bool))).bind fun s => match s with | .inl y => some y | .inr (o, d, k) => ((nU o).bind fun D => (if (!D) then ((kZ (⟨d, k⟩ : jx) 11).bind fun F => match F with | .inl p => some (Sum.inl p) | .inr Y => some (Sum.inr ((⟨0, (⟨zS, zS⟩ : ja), zS, (⟨zS, zS⟩ : ja), (⟨zS, zS⟩ : ja), zS⟩ : jb), (⟨d, k⟩ : jx)))) else some (Sum.inr (o, (⟨d, k⟩ : jx)))))))))
structure jr where
 S : ByteArray
 E : Int
def jG (x : jr) : List Value := [.string x.S, .int .i64 x.E]
def mx (k : Int) : Nat → Int → Int → Int → jr → Option (Int × jr)
 | 0, _, _, _, _ => none
 | n173 + 1, h, d, i, a => (if (i == 9) then some (0, (⟨a.S, 11⟩ : jr)) else (if (ke a.S zS) then some (0, (⟨a.S, 10⟩ : jr)) else ((yX a.S 0).bind fun c => ((DR a.S 1 (a.S.size : Int)).bind fun g => ((if ((wi0 .i64 (c.toNat : Int)) == 0) then some (decide (i > 0)) else some false).bind fun j => (if j then some (0, (⟨g, 11⟩ : jr)) else (if (decide ((wi0 .i64 (c.toNat : Int)) < 128)) then (if (decide ((wi0 .i64 (h + (wi0 .i64 ((Int.tmod (wi0 .i64 (c.toNat : Int)) 128) * d)))) > k)) then some (0, (⟨g, 12⟩ : jr)) else some ((wi0 .i64 (h + (wi0 .i64 ((Int.tmod (wi0 .i64 (c.toNat : Int)) 128) * d)))), (⟨g, a.E⟩ : jr))) else (mx k n173 (wi0 .i64 (h + (wi0 .i64 ((Int.tmod (wi0 .i64 (c.toNat : Int)) 128) * d)))) (wi0 .i64 (d * 128)) (wi0 .i64 (i + 1)) (⟨g, a.E⟩ : jr)))))))))
def kd (a0 : jr) (a : Int) : Option (Int × jr) :=
 (if (a0.E != 0) then some (0, a0) else mx a jX 0 1 0 a0)
def mZ (a0 : jr) (g : Int) : Option (ByteArray × jr) :=
 ((kd a0 9223372036854775807).bind fun a => (if (a.2.E != 0) then some (zS, a.2) else (if (decide (a.1 > g)) then some (zS, (⟨a.2.S, 12⟩ : jr)) else (if (decide (a.1 > (a.2.S.size : Int))) then some (zS, (⟨a.2.S, 10⟩ : jr)) else ((DR a.2.S 0 a.1).bind fun c => ((DR a.2.S a.1 (a.2.S.size : Int)).bind fun d => some (c, (⟨d, a.2.E⟩ : jr))))))))
def lP (a0 : jr) : Option (ByteArray × jr) :=
 ((mZ a0 16).bind fun c => ((((if (c.2.E == 0) then ((oP c.1).bind fun d => some (!d)) else some false).bind fun g => (if g then some (⟨c.2.S, 30⟩ : jr) else some c.2)) : Option jr).bind fun a => (if (a.E != 0) then some (zS, a) else some (c.1, a))))
def lK (a0 : jr) : Option (ja × jr) :=
 ((lP a0).bind fun c => ((lP c.2).bind fun a => (if (a.2.E != 0) then some ((⟨zS, zS⟩ : ja), a.2) else some ((⟨c.1, a.1⟩ : ja), a.2))))
def vG (a0 : jr) : Option (jb × jr) :=
 ((kd a0 9223372036854775807).bind fun c => ((((if (c.2.E == 0) then ((if (decide (c.1 < 1)) then some true else some (decide (c.1 > 4))).bind fun u => some u) else some false).bind fun t => (if t then some (⟨c.2.S, 11⟩ : jr) else some c.2)) : Option jr).bind fun v => ((lK v).bind fun d => (((if (c.1 == 1) then ((lP d.2).bind fun j => some ((⟨c.1, d.1, j.1, (⟨zS, zS⟩ : ja), (⟨zS, zS⟩ : ja), zS⟩ : jb), j.2)) else ((if (c.1 == 2) then some (c.1 == 2) else (if (c.1 == 3) then some (c.1 == 3) else some (c.1 == 4))).bind fun s => (if s then ((lK d.2).bind fun g => (((if (c.1 == 3) then ((lP g.2).bind fun m => some ((⟨c.1, d.1, zS, g.1, (⟨zS, zS⟩ : ja), m.1⟩ : jb), m.2)) else some ((⟨c.1, d.1, zS, g.1, (⟨zS, zS⟩ : ja), zS⟩ : jb), g.2)) : Option (jb × jr)).bind fun (a, o) => (if (a.Kind == 4) then ((lK o).bind fun k => some ((⟨a.Kind, a.Head, a.jL, a.B, k.1, a.kk⟩ : jb), k.2)) else some (a, o)))) else some ((⟨c.1, d.1, zS, (⟨zS, zS⟩ : ja), (⟨zS, zS⟩ : ja), zS⟩ : jb), d.2)))) : Option (jb × jr)).bind fun (n, h) => ((((if (h.E == 0) then ((pK n).bind fun p => some (!p)) else some false).bind fun q => (if q then some (⟨h.S, 11⟩ : jr) else some h)) : Option jr).bind fun i => (if (i.E != 0) then some ((⟨0, (⟨zS, zS⟩ : ja), zS, (⟨zS, zS⟩ : ja), (⟨zS, zS⟩ : ja), zS⟩ : jb), i) else some (n, i)))))))
def qY (a0 : jr) : Option Int :=
 ((if (a0.E == 0) then some (!(ke a0.S zS)) else some false).bind fun x8 => (if x8 then some 13 else some a0.E))
structure jI where
 State : Int
 lc : Int
 jM : List ja
 jO : List jv
def ue (a0 : Al) (a2 a3 : Int) (c : ((List ja) × Bool)) : List ja → (List jv) → Option jI
 | [], a => some (⟨a2, a3, c.1, a⟩ : jI)
 | i :: d, a => ((uV a0.ph (⟨i, a0.Ae⟩ : jd)).bind fun g => ((xK ([a, g.1])).bind fun h => (ue a0 a2 a3 c d h)))
def qz (a0 : Al) (g : Formula) (a2 a3 : Int) (a4 : Bool) : Option jI :=
 ((if (!a4) then some true else some (a2 != 1)).bind fun d => (if d then some (⟨a2, a3, [], []⟩ : jI) else ((BW a0).bind fun a => ((yx g (fun (x : ja) => wO x a.1 a.2.1 a.2.2.1 a.2.2.2.1 a.2.2.2.2.1 a.2.2.2.2.2.1 a.2.2.2.2.2.2.1 a0.mD.w6 a0.mD.A8 a.2.2.2.2.2.2.2.1 a.2.2.2.2.2.2.2.2 a0.ph a0.Shown a0.lV a0.Dy)).bind fun c => (if (!c.2) then some (⟨a2, a3, [], []⟩ : jI) else ue a0 a2 a3 c c.1 ([]))))))
def ur (a0 : ja) : Option Bool :=
 ((nS a0).bind fun a => some (!a))
def wm (a0 : jI) : Option Bool :=
 ((if (decide (a0.State ≥ 0)) then some (decide (a0.State ≤ 3)) else some false).bind fun x8 => ((if x8 then some (decide (a0.lc ≥ 0)) else some false).bind fun c => ((if c then some (decide (a0.lc ≤ 99)) else some false).bind fun d => ((if d then some (decide ((a0.jM.length : Int) ≤ 64)) else some false).bind fun g => ((if g then ((mF a0.jM (fun (x : ja) => ur x)).bind fun a => some (!a)) else some false).bind fun h => some h)))))
def nT (f1 : jv → Option Bool) : List jv → Nat → Option Int
 | [], _ => some (-1)
 | d :: a, i35 => ((f1 d).bind fun c => (if c then some (i35 : Int) else (nT f1 a (i35 + 1))))
def tT (a0 : List jv) (f1 : jv → Option Bool) : Option Int :=
 nT f1 a0 0
def pI (a0 : List jv) (f1 : jv → Option Bool) : Option Bool :=
 ((tT a0 f1).bind fun a => some (decide (a ≥ 0)))
def xv (a0 : jv) : Option Bool :=
 ((nU a0.jb).bind fun d => ((if d then some (jt a0.jd.ja a0.jb.Head) else some false).bind fun x7 => ((if x7 then ((oH a0.jd.jL).bind fun a => some a) else some false).bind fun c => some c)))
def xc (a0 : jv) : Option Bool :=
 ((xv a0).bind fun a => some (!a))
def rc  : List jv → (List Int) → Option (Bool × (List Int))
 | [], a => some (true, a)
 | c :: d, a => ((tC c.jb).bind fun g => ((tF a g).bind fun h => ((pD h.2 c.jd.jL).bind fun i => (rc d i.2))))
def xE (a : List Int) (d : List jv) : Option (Bool × (List Int)) :=
 ((if (decide ((d.length : Int) > 256)) then some true else ((pI d (fun (x : jv) => xc x)).bind fun c => some c)).bind fun x5 => (if x5 then some (false, a) else ((kX a (d.length : Int)).bind fun g => rc d g.2)))
def pY (g : List Int) : List ja → (List Int) → Option (Bool × (List Int))
 | [], a => ((mT g).bind fun i => ((tF a i).bind fun c => some (c.1, c.2)))
 | j :: d, a => ((nm a j).bind fun h => (pY g d h.2))
def sa (a : List Int) (d : jI) : Option (Bool × (List Int)) :=
 ((wm d).bind fun m => (((if (!m) then some (true, ([])) else ((xE ([]) d.jO).bind fun c => some ((!c.1), c.2))) : Option (Bool × (List Int))).bind fun (k, g) => (if k then some (false, a) else ((kX a d.State).bind fun h => ((kX h.2 d.lc).bind fun i => ((kX i.2 (d.jM.length : Int)).bind fun j => pY g d.jM j.2))))))
def pO (q : (Int × jx)) : Nat → (List jv) → Int → (List Int) → Bool → Option (Int ⊕ ((List jv) × jx))
 | 0, _, _, _, _ => none
 | k + 1, d, h, g, i => (if (decide (h < q.1)) then ((yN (⟨g, i⟩ : jx)).bind fun p => match p with | .inl m => some (Sum.inl m) | .inr a => ((rR a.2).bind fun o => match o with | .inl n => some (Sum.inl n) | .inr c => ((lj 184 d ([(⟨a.1, (⟨a.1.Head, c.1⟩ : jd)⟩ : jv)])).bind fun j => (pO q k j (wi0 .i64 (h + 1)) ((c.2).b) ((c.2).kQ))))) else some (Sum.inr (d, (⟨g, i⟩ : jx))))
def xL (a0 : jx) (g : Int) : Option (Int ⊕ ((List jv) × jx)) :=
 ((lA a0 g).bind fun a => match a with | .inl c => some (Sum.inl c) | .inr d => pO d jX ([]) 0 ((d.2).b) ((d.2).kQ))
def oD (p t o : (Int × jx)) : Nat → Int → (List ja) → (List Int) → Bool → Option (Int ⊕ (jI × jx))
 | 0, _, _, _, _ => none
 | k + 1, h, d, g, i => (if (decide (h < p.1)) then ((qp (⟨g, i⟩ : jx)).bind fun q => match q with | .inl m => some (Sum.inl m) | .inr a => ((lj 32 d ([a.1])).bind fun j => (oD p t o k (wi0 .i64 (h + 1)) j ((a.2).b) ((a.2).kQ)))) else ((xL (⟨g, i⟩ : jx) 256).bind fun s => match s with | .inl n => some (Sum.inl n) | .inr c => some (Sum.inr ((⟨t.1, o.1, d, c.1⟩ : jI), (⟨(c.2).b, (c.2).kQ⟩ : jx)))))
def uo (a0 : jx) : Option (Int ⊕ (jI × jx)) :=
 ((lA a0 3).bind fun h => match h with | .inl i => some (Sum.inl i) | .inr m => ((lA m.2 99).bind fun g => match g with | .inl j => some (Sum.inl j) | .inr c => ((lA c.2 64).bind fun d => match d with | .inl k => some (Sum.inl k) | .inr a => oD a m c jX 0 ([]) ((a.2).b) ((a.2).kQ))))
def z7 (a0 : jx) (g : jI) : Option (Int ⊕ (jx × jI)) :=
 ((uo a0).bind fun c => match c with | .inl a => some (Sum.inl a) | .inr d => some (Sum.inr (d.2, d.1)))
def tV (a0 : List Int) (a : jI) : Option (Int × jI) :=
 ((nW a0).bind fun l => ((z7 (⟨l, false⟩ : jx) a).bind fun s => some ((GK (fun r => (r.1).b) s), (match s with | .inl _ => a | .inr r => r.2))))
def rN (a0 : jI) (g : List jb) (a3 : ByteArray) : List ja → Option Int
 | [] => some 0
 | d :: c => ((vJ a0.jO g (⟨d, a3⟩ : jd)).bind fun a => (if (a.2 != 0) then some a.2 else (rN a0 g a3 c)))
def mN (a0 : jI) (d : List jb) (a2 : Formula) (a3 : ByteArray) : Option Int :=
 (if (a0.State != 1) then some 43 else ((oa a2 a0.jM).bind fun c => (if (!c) then some 44 else ((vJ a0.jO d (⟨(⟨zS, zS⟩ : ja), zS⟩ : jd)).bind fun a => (if (a.2 == 50) then some a.2 else rN a0 d a3 a0.jM)))))
def pG (g : List jv) : List jv → Nat → Option Bool
 | [], _ => some true
 | d :: c, i90 => ((kN g (i90 : Int)).bind fun a => (if (!(AU d a)) then some false else (pG g c (i90 + 1))))
def tK (a0 a : List jv) : Option Bool :=
 (if ((a0.length : Int) != (a.length : Int)) then some false else pG a a0 0)
def vd (a0 a : jI) : Option Bool :=
 ((if (a0.State == a.State) then some (a0.lc == a.lc) else some false).bind fun g => ((if g then ((tM a0.jM a.jM).bind fun d => some d) else some false).bind fun h => ((if h then ((tK a0.jO a.jO).bind fun c => some c) else some false).bind fun i => some i)))
def vC  : Option Bool :=
 ((qz (⟨(⟨(⟨#[109, 101]⟩ : ByteArray), [], []⟩ : mD), (⟨#[121, 111, 117]⟩ : ByteArray), 3, [(⟨1, (⟨(⟨#[120]⟩ : ByteArray), (⟨#[121]⟩ : ByteArray)⟩ : ja), (⟨#[121, 111, 117]⟩ : ByteArray), (⟨zS, zS⟩ : ja), (⟨zS, zS⟩ : ja), zS⟩ : jb)], [], [], []⟩ : Al) (⟨1, 0, (⟨(⟨#[120]⟩ : ByteArray), (⟨#[121]⟩ : ByteArray)⟩ : ja), []⟩ : Formula) 1 0 true).bind fun a => ((qz (⟨(⟨(⟨#[109, 101]⟩ : ByteArray), [], []⟩ : mD), (⟨#[121, 111, 117]⟩ : ByteArray), 3, [(⟨1, (⟨(⟨#[120]⟩ : ByteArray), (⟨#[121]⟩ : ByteArray)⟩ : ja), (⟨#[121, 111, 117]⟩ : ByteArray), (⟨zS, zS⟩ : ja), (⟨zS, zS⟩ : ja), zS⟩ : jb)], [], [], []⟩ : Al) (⟨1, 0, (⟨(⟨#[120]⟩ : ByteArray), (⟨#[121]⟩ : ByteArray)⟩ : ja), []⟩ : Formula) 1 0 false).bind fun c => ((sa ([]) a).bind fun k => ((mT k.2).bind fun x => ((tV x (⟨0, 0, [], []⟩ : jI)).bind fun m => ((if ((((a).jM).length : Int) == 1) then some ((((a).jO).length : Int) == 1) else some false).bind fun n => ((if n then ((mN (⟨(a).State, (a).lc, (a).jM, (a).jO⟩ : jI) ([(⟨1, (⟨(⟨#[120]⟩ : ByteArray), (⟨#[121]⟩ : ByteArray)⟩ : ja), (⟨#[121, 111, 117]⟩ : ByteArray), (⟨zS, zS⟩ : ja), (⟨zS, zS⟩ : ja), zS⟩ : jb)]) (⟨1, 0, (⟨(⟨#[120]⟩ : ByteArray), (⟨#[121]⟩ : ByteArray)⟩ : ja), []⟩ : Formula) (⟨#[121, 111, 117]⟩ : ByteArray)).bind fun j => some (j == 0)) else some false).bind fun o => ((if o then ((mN (⟨(a).State, (a).lc, (a).jM, (a).jO⟩ : jI) ([]) (⟨1, 0, (⟨(⟨#[120]⟩ : ByteArray), (⟨#[121]⟩ : ByteArray)⟩ : ja), []⟩ : Formula) (⟨#[121, 111, 117]⟩ : ByteArray)).bind fun i => some (i == 50)) else some false).bind fun p => ((if p then some ((wi0 .i64 ((((c).jM).length : Int) + (((c).jO).length : Int))) == 0) else some false).bind fun q => ((if q then ((mN (⟨(c).State, (c).lc, (c).jM, (c).jO⟩ : jI) ([(⟨1, (⟨(⟨#[120]⟩ : ByteArray), (⟨#[121]⟩ : ByteArray)⟩ : ja), (⟨#[121, 111, 117]⟩ : ByteArray), (⟨zS, zS⟩ : ja), (⟨zS, zS⟩ : ja), zS⟩ : jb)]) (⟨1, 0, (⟨(⟨#[120]⟩ : ByteArray), (⟨#[121]⟩ : ByteArray)⟩ : ja), []⟩ : Formula) (⟨#[121, 111, 117]⟩ : ByteArray)).bind fun h => some (h == 44)) else some false).bind fun s => ((if s then some k.1 else some false).bind fun t => ((if t then some (m.1 == 0) else some false).bind fun u => ((if u then ((vd m.2 (⟨(a).State, (a).lc, (a).jM, (a).jO⟩ : jI)).bind fun g => some g) else some false).bind fun v => ((if v then ((mN (⟨0, 0, [], []⟩ : jI) ([]) (⟨1, 0, (⟨(⟨#[120]⟩ : ByteArray), (⟨#[121]⟩ : ByteArray)⟩ : ja), []⟩ : Formula) (⟨#[121, 111, 117]⟩ : ByteArray)).bind fun d => some (d == 43)) else some false).bind fun w => some w))))))))))))))
def vq (a0 : jI) (a3 : ByteArray) : List ja → Option Int
 | [] => some 0
 | g :: a => ((vS a0.jO).bind fun c => ((sN c g a3).bind fun d => (if (!d) then some 42 else (vq a0 a3 a))))
def DK (a0 : jI) (h : List jb) (a2 : Formula) (a3 : ByteArray) : Option Int :=
 (if (a0.State != 1) then some 43 else ((Af a2).bind fun c => ((if (!c) then some true else ((wF jX a2 a0.jM).bind fun a => some (!a))).bind fun g => (if g then some 44 else ((DM a0.jO h (⟨(⟨zS, zS⟩ : ja), zS⟩ : jd)).bind fun d => (if (d.2 == 50) then some 50 else vq a0 a3 a0.jM))))))
def tm  : List ja → Int → Option Int
 | [], a => some a
 | c :: d, a => (tm d (wi0 .i64 (a + (wi0 .i64 ((wi0 .i64 (5 + (c.jn.size : Int))) + (c.jK.size : Int))))))
def vE (a0 : jI) : Option Int :=
 ((Ap a0.jO).bind fun a => tm a0.jM a)
def ry  : List jv → ByteArray → Option ByteArray
 | [], c => some c
 | a :: d, c => ((pK a.jb).bind fun g => ((if (!g) then some true else some (!(jt a.jd.ja a.jb.Head))).bind fun n => ((if n then some true else ((oP a.jd.jL).bind fun j => some (!j))).bind fun o => (if o then some zS else ((ua a.jb).bind fun h => ((rS a.jd.jL).bind fun i => ((vv h i).bind fun k => ((vv c k).bind fun m => (ry d m)))))))))
def xD (a0 : List jv) : Option ByteArray :=
 (if (decide ((a0.length : Int) > 256)) then some zS else ((nv (a0.length : Int)).bind fun a => ry a0 a))
def ra (a0 : jI) : List ja → ByteArray → Option ByteArray
 | [], a => ((xD a0.jO).bind fun c => (if (ke c zS) then some zS else ((vv a c).bind fun k => some k)))
 | d :: g, a => ((qN d).bind fun h => (if (!h) then some zS else ((sy d).bind fun i => ((vv a i).bind fun j => (ra a0 g j)))))
def xz (a0 : jI) : Option ByteArray :=
 ((if (decide (a0.State < 0)) then some true else some (decide (a0.State > 3))).bind fun x8 => ((if x8 then some true else some (decide (a0.lc < 0))).bind fun i => ((if i then some true else some (decide (a0.lc > 99))).bind fun j => ((if j then some true else some (decide ((a0.jM.length : Int) > 64))).bind fun k => (if k then some zS else ((nv a0.State).bind fun a => ((nv a0.lc).bind fun c => ((vv a c).bind fun g => ((nv (a0.jM.length : Int)).bind fun d => ((vv g d).bind fun h => ra a0 a0.jM h))))))))))
def uS (a : jI) : Option Bool :=
 some false
def uZ (a0 a : jI) : Option Bool :=
 ((if (a0.State == a.State) then some (a0.lc == a.lc) else some false).bind fun g => ((if g then ((yV a0.jM a.jM).bind fun d => some d) else some false).bind fun h => ((if h then ((yq a0.jO a.jO).bind fun c => some c) else some false).bind fun i => some i)))
def tk (a0 : jx) (g : jI) : Option (Int ⊕ (jx × jI)) :=
 ((uo a0).bind fun c => match c with | .inl a => some (Sum.inl a) | .inr d => some (Sum.inr (d.2, d.1)))
def mX (a0 : List Int) (a : jI) : Option (Int × jI) :=
 ((nW a0).bind fun l => ((tk (⟨l, false⟩ : jx) a).bind fun s => some ((GK (fun r => (r.1).b) s), (match s with | .inl _ => a | .inr r => r.2))))
def nJ (k : (Int × jr)) : Nat → (List jv) → Int → jr → Option ((List jv) × jr)
 | 0, _, _, _ => none
 | n284 + 1, d, h, a => ((if (decide (h < k.1)) then some (a.E == 0) else some false).bind fun j => (if j then ((vG a).bind fun c => ((lP c.2).bind fun g => ((lj 184 d ([(⟨c.1, (⟨c.1.Head, g.1⟩ : jd)⟩ : jv)])).bind fun i => (nJ k n284 i (wi0 .i64 (h + 1)) g.2)))) else (if (a.E != 0) then some ([], a) else some (d, a))))
def su (a0 : jr) (c : Int) : Option ((List jv) × jr) :=
 ((kd a0 c).bind fun a => nJ a jX ([]) 0 a.2)
def mR (m o k : (Int × jr)) : Nat → Int → (List ja) → jr → Option (jI × jr)
 | 0, _, _, _ => none
 | j + 1, h, d, c => ((if (decide (h < m.1)) then some (c.E == 0) else some false).bind fun n => (if n then ((lK c).bind fun g => ((lj 32 d ([g.1])).bind fun i => (mR m o k j (wi0 .i64 (h + 1)) i g.2))) else ((su c 256).bind fun a => (if (a.2.E != 0) then some ((⟨0, 0, [], []⟩ : jI), a.2) else some ((⟨o.1, k.1, d, a.1⟩ : jI), a.2)))))
def tW (a0 : jr) : Option (jI × jr) :=
 ((kd a0 3).bind fun d => ((kd d.2 99).bind fun a => ((kd a.2 64).bind fun c => mR c d a jX 0 ([]) c.2)))
def qW (a0 t : jI) (a2 : List Int) : Option Bool :=
 (vC.bind fun u => (if (!u) then some false else ((vE a0).bind fun v => ((vE t).bind fun w => ((if (decide ((wi0 .i64 (v + w)) > 4000)) then some true else some (decide ((a2.length : Int) > 2000))).bind fun x => (if x then some true else ((xz a0).bind fun n => ((sa ([]) a0).bind fun a => ((if (a.1 != (!(ke n zS))) then some true else ((mT a.2).bind fun m => some (!(ke (vY m) n)))).bind fun o => ((if o then some true else ((uS a0).bind fun k => some k)).bind fun p => ((if p then some true else ((vd a0 t).bind fun i => ((uZ a0 t).bind fun j => some (i != j)))).bind fun q => (if q then some false else ((mX a2 (⟨0, 0, [], []⟩ : jI)).bind fun c => ((tW (⟨(vY a2), 0⟩ : jr)).bind fun d => ((uZ c.2 d.1).bind fun g => ((if g then ((qY d.2).bind fun h => some (c.1 == h)) else some false).bind fun s => some s))))))))))))))))
end
end Go.Proofs.YtbnbdigcbldfhaaGreat
