/- a part of a proof of LintFinds -/
import Derived.Test.YtjjjihkifgdhgaaGreatDoorRtVj
import Derived.Lib.ItoaNum
import Derived.Lib.Join
import Derived.Recover
import Derived.LaidEqlPtr
import Derived.RangeFuncRecord
import Derived.Lib.AppendStr
import Derived.Lib.Builder
import Derived.Lib.UnsafeStr
import Derived.Shelf.SlSortCmp.NoneTotal
import Derived.Shelf.SortM.Plain
import Derived.Shelf.SortM.SortNone
import Derived.Shelf.SlIter.Sorted
import Derived.Shelf.SlIter.Nil
import Derived.Shelf.Strconv.Itoa3
import Derived.Shelf.Strings.OnBuilder
import Derived.Test.YtjjjihkifgdhgaaGreatDoorProg
import Derived.KernelRfl
set_option linter.all false
namespace Go.Proofs.YtjjjihkifgdhgaaGreatDoor
open Go.IntKind renaming wrap → wi0
open Go.RowKit
variable [M : Md]
section
variable {dd : Bool}
def Bd {α : Type} (R : pI α) : kk → List Value → α → Prop := fun μ vs x => ∃ ys, vs = [.agg ys.toArray] ∧ R μ ys x
def ve {α β : Type} (R : pI α) (S : pI β) : kk → List Value → α × β → Prop := fun μ vs x => ∃ ys zs, vs = [.agg ys.toArray, .agg zs.toArray] ∧ R μ ys x.1 ∧ S μ zs x.2
theorem Bd.mk {α : Type} {R : pI α} {k : Nat} {μ μ' : kk} {ys : List Value} {x : α} (b : Deep R k) (h : R μ ys x) (d : kf μ μ') : Bd R μ' [.agg ys.toArray] x := ⟨ys, rfl, b.mono _ _ _ _ d h⟩
theorem ve.mk {α β : Type} {R : pI α} {S : pI β} {k m : Nat} {μ μ' : kk} {ys zs : List Value} {x : α} {y : β} (g : Deep R k) (i : Deep S m) (h : R μ ys x) (d : S μ zs y) (b : kf μ μ') : ve R S μ' [.agg ys.toArray, .agg zs.toArray] (x, y) :=
 ⟨ys, zs, rfl, g.mono _ _ _ _ b h, i.mono _ _ _ _ b d⟩
def xj {α β : Type} (P : Program) (fv : Value) (μ : kk) (d : kk → List Value → α → Prop) (g : β → Value) (pm : α → Option β) : Prop :=
 ∃ f first b, fv = .func (.func f) first b ∧ (∀ args w, (callFunc f args).run P w = .ok (.enter f args) w) ∧ ∀ W x vs r, kf μ (hp W) → d (hp W) vs x → pm x = some r → jT false P f (first.toList ++ (vs ++ b.toList)) W (g r)
theorem xj.form {α β : Type} {P : Program} {fv : Value} {μ : kk} {d : kk → List Value → α → Prop} {g : β → Value} {pm : α → Option β} (h : xj P fv μ d g pm) : ∃ f a b, fv = .func f a b := let ⟨f, a, b, h, _⟩ := h; ⟨_, a, b, h⟩
end
section
variable {P : Program} {W : World} {E : Nat → Value} {d : Option Nat} {ty : TypeId} {pos : String} {af : Array Edge} {g : Option (Nat × Bool)} {F : Nat → Prop} {w : World} {μ μ0 : kk} {L : List (Nat × Obj)}
theorem xj.mono {α β : Type} {fv : Value} {d : kk → List Value → α → Prop} {g : β → Value} {pm : α → Option β} (h : xj P fv μ d g pm) (l : kf μ μ0) : xj P fv μ0 d g pm := by
 obtain ⟨f, first, b, h1, i, j⟩ := h
 exact ⟨f, first, b, h1, i, fun W x vs r h => j W x vs r (l.trans h)⟩
theorem yr {α β : Type} {K : Value → World → Prop} {fv : Value} {m : kk → List Value → α → Prop} {n : β → Value} {pm : α → Option β} {j : Operand} {ax : Array Operand} {ats : Array TypeId} (x : α) {vs : List Value} {r : β} (i : ST false F w W μ L) (v : xj P fv μ0 m n pm) (z : kf μ0 μ) (u : m (hp W) vs x) (y : jH E j = fv) (ha : ax.map (jH E) ++ (#[] : Array Value) = vs.toArray) (hm : pm x = some r) (h : ∀ W', ST false F w W' μ L → K (n r) W') : mY P E ⟨d, .call ⟨.value j, ax, ats⟩, ty, pos, af, g⟩ W K := by
 obtain ⟨f, first, b, rfl, p, q⟩ := v
 have l : ax.map (jH E) = vs.toArray := by simpa using ha
 refine .inr (.inr ⟨f, (first.toList ++ (vs ++ b.toList)).toArray, ?_, dr (q W x vs r (z.trans i.jB) u hm) (fun _ _ ⟨s, t⟩ => ⟨_, s, h _ (i.Gp t)⟩)⟩)
 show (do let d ← resolve (jH E) ⟨.value j, ax, ats⟩ ty; invoke d.target d.args : Sem Next).run P W = _
 simp only [resolve, y, Deferred.ofValue, cH, dz, bQ, invoke, l, p]
 congr 2
 simp
end
section
variable {dd : Bool}
variable {β : Type} {Rl : pI β} {k : Nat} {μ : kk} {v : Value} {l : List β} {e : TypeId} {B : List (Nat × Obj)}
variable {F : Nat → Prop} {w W : World} {L : List (Nat × Obj)}
variable {P : Program} {E : Nat → Value} {d : Option Nat} {ty : TypeId} {pos : String} {af : Array Edge} {g : Option (Nat × Bool)}
theorem Jl {α : Type} {enc : α → List Value} (hk : ∀ x, (enc x).length = k) (d : 0 < k) (g : ∀ x y, enc x = enc y → x = y) : ∀ {l m : List α}, (l.map enc).flatten = (m.map enc).flatten → l = m
 | [], [], _ => rfl
 | [], b :: m, h => by
  have := bD List.length h
  simp only [eF, dy, bR, bJ, bO, aF, hk] at this
  omega
 | a :: l, [], h => by
  have := bD List.length h
  simp only [eF, dy, bR, bJ, bO, aF, hk] at this
  omega
 | a :: l, b :: m, h => by
  simp only [bJ, bO] at h
  obtain ⟨h1, i⟩ := List.append_inj h (by rw [hk, hk])
  rw [g _ _ h1, Jl hk d g i]
theorem TE (x y : wF k) (h : uV x = uV y) : x = y := Subtype.ext h
theorem jX.pre {v1 : Value} {cl b : List (wF k)} (i : 0 < k) (h : jX e uV k v cl B) (h1 : jX e uV k v1 b B) (g : b.length ≤ cl.length) : b = cl.take b.length := by
 rcases h with ⟨rfl, rfl, rfl⟩ | ⟨s, cap, d, rfl, rfl, t, u, w, q⟩
 ·simp at g; simp [g]
 ·rcases h1 with ⟨_, _, h⟩ | ⟨g1, j, l, rfl, m, r, a2, a3, a4⟩
  ·cases h
  ·cases m
   refine Jl yO i TE ?_
   rw [← a4]
   have hle : b.length * k ≤ cl.length * k := cQ _ g
   have : d.toList.take (b.length * k) = (d.toList.take (cl.length * k)).take (b.length * k) := by rw [gj, dO hle]
   rw [this, q]
   have n : (cl.map uV).flatten = ((cl.take b.length).map uV).flatten ++ ((cl.drop b.length).map uV).flatten := by rw [← cO, ← cE, gB]
   have p : ((cl.take b.length).map uV).flatten.length = b.length * k := by rw [pB yO, dp, dO g]
   rw [n, ← p, gp]
theorem pa.replicate {α β : Type} {Q : α → β → Prop} {a : α} {b : β} (h : Q a b) : ∀ n, pa Q (List.replicate n a) (List.replicate n b)
 | 0 => .nil
 | n + 1 => .cons h (pa.replicate h n)
theorem pa.TD {α β : Type} {Q : α → β → Prop} {l : List α} {m : List β} (h : pa Q l m) {a : α} {b : β} (d : Q a b) (i : Nat) : pa Q (ou l i a) (ou m i b) := by
 unfold ou
 rw [h.length]
 exact (h.take i).append (pa.replicate d _)
theorem CY {t e' : TypeId} {x ih : Operand} {y : IntKind} {i : Int} (s : P.underlying t = some (.slice e')) (he : ∀ w, (sizeOf e').run P w = .ok k w) (u : jH E x = v) (q : jH E ih = .int y i) (h : kE e Rl k μ v l B) (m : 0 ≤ i) (r : i ≤ l.length) :
  ∃ b, kE e Rl k μ b (l.take i.toNat) B ∧ ∀ W, lR P E ⟨d, .slice t x none (some ih) none, ty, pos, af, g⟩ W b W := by
 obtain ⟨cl, h1, j⟩ := h
 obtain ⟨b, n, p⟩ := Bq (d := d) (ty := ty) (pos := pos) (af := af) (g := g) s he u q h1 yO m (by rw [j.length]; exact r)
 exact ⟨b, ⟨_, n, j.take _⟩, p⟩
theorem AN {t e' : TypeId} {x b : Operand} {s : IntKind} {i : Int} (q : P.underlying t = some (.slice e')) (he : ∀ w, (sizeOf e').run P w = .ok k w) (r : jH E x = v) (n : jH E b = .int s i) (h : kE e Rl k μ v l B) (j : 0 ≤ i) (p : i ≤ l.length) :
  ∃ u, Ap k v i.toNat u ∧ ∀ W, lR P E ⟨d, .slice t x (some b) none none, ty, pos, af, g⟩ W u W := by
 obtain ⟨cl, h1, m⟩ := h
 exact zn q he r n h1 j (by rw [m.length]; exact p)
theorem LV {t e' : TypeId} {x : Operand} {u : Value} {i : Nat} (j : P.underlying t = some (.slice e')) (m : jH E x = u) (hu : Ap k v i u) (h : kE e Rl k μ v l B) : lR P E ⟨d, .call ⟨.builtin .len, #[x], #[t]⟩, ty, pos, af, g⟩ W (.int .i64 ((l.length - i : Nat) : Int)) W := by
 obtain ⟨cl, h1, b⟩ := h
 rw [← b.length]
 exact H3 j m hu h1
theorem AX {t e' : TypeId} {x m : Operand} {L : IntKind} {i : Int} {x0 : β} {u : Value} {o : Nat} {A : List Value → Prop} (z : ∀ {ys}, Rl μ ys x0 → A ys) (I : P.underlying t = some (.slice e')) (he : ∀ w, (sizeOf e').run P w = .ok k w) (J : jH E x = u) (s : jH E m = .int L i) (h : kE e Rl k μ v l B) (hu : Ap k v o u) (n : 0 ≤ i) (y : (l.drop o)[i.toNat]? = some x0) :
  ∃ p, (∃ ys, A ys ∧ At (B4 B) p ys ∧ yH B k p (o + i.toNat)) ∧ ∀ W, lR P E ⟨d, .indexAddr t x m, ty, pos, af, g⟩ W p W := by
 obtain ⟨cl, h1, q⟩ := h
 obtain ⟨c, j, G⟩ := (q.drop o).get y
 obtain ⟨p, b, r⟩ := zy (d := d) (ty := ty) (pos := pos) (af := af) (g := g) I he J s h1 hu n j
 exact ⟨p, ⟨c.1, z G, b.at h1 yO (A6 j), b⟩, r⟩
theorem DQ {K : Value → World → Prop} {z : β} {zs : List Value} {Y : List (Nat × Obj)} {t e' : TypeId} {x : Operand} {u m : Value} {i : Nat} (q : Deep Rl k) (j : ST dd F w W μ (B ++ Y)) (h : kE e Rl k μ v l B) (b : Rl μ zs z) (y : P.underlying t = some (.slice e')) (G : ∀ w, (zeroValue e').run P w = .ok m w) (hu : Ap k v i u) (s : m.cells = zs.toArray) (A : jH E x = u) (r : ∀ W' R', ST dd F w W' μ (R' ++ Y) → kE e Rl k μ v (ou l i z) R' → K (.tuple #[]) W') : mY P E ⟨d, .call ⟨.builtin .clear, #[x], #[t]⟩, ty, pos, af, g⟩ W K := by
 obtain ⟨cl, h1, p⟩ := h
 exact B9 (q.cell b) j h1 yO Oj y G hu s A (fun W' R' n a2 => r W' R' n ⟨_, a2, p.TD b i⟩)
end
section
variable {P : Program} {W : World} {E : Nat → Value} {d : Option Nat} {ty : TypeId} {pos : String} {af : Array Edge} {g : Option (Nat × Bool)}
theorem NW {tx tv : TypeId} {x y : Operand} {fv : Value} {s u : Array TypeId} {bb : Bool} (j : P.underlying tx = some (.func s u bb)) (h : ∃ f a b, fv = .func f a b) (l : jH E x = fv) (m : jH E y = .nilFunc) :
  lR P E ⟨d, .binOp .neq tx x y tv, ty, pos, af, g⟩ W (.bool true) W := by
 obtain ⟨f, a, b, rfl⟩ := h
 show (do let r ← (do eqGuard .neq tx x y (jH E x) (jH E y); binOp .neq tx (jH E x) (jH E y)); pure (.value r) : Sem Next).run P W = _
 rw [l, m]
 have i := FF 9999 j f a b W
 simp [eqGuard, binOp, Op.equal, show Op.maxDepth = 9999 + 1 from rfl, i]
end
end Go.Proofs.YtjjjihkifgdhgaaGreatDoor
namespace Go.Proofs.YtjjjihkifgdhgaaGreatDoor
open Go.IntKind renaming wrap → wi0
open Go.RowKit
variable [M : Md]
theorem bS {α β : Type} {m : Option α} {f : α → Option β} {r : β} {G : Prop} (h : m.bind f = some r) (k : ∀ x, m = some x → f x = some r → G) : G :=
 let ⟨x, a, b⟩ := bind_some h
 k x a b
theorem sj {α : Type} {a b : α} (h : some a = some b) : a = b := fW h
theorem bC {α : Type} {b : Bool} {x y r : α} {G : Prop} (h : (if b = true then x else y) = r) (d : b = true → x = r → G) (k2 : b = false → y = r → G) : G := by
 rcases MI b with e | e
 ·exact d e (Q9 e h)
 ·exact k2 e (Rf e h)
theorem cB {a b : Bool} (h : a = b) : Value.bool a = Value.bool b := bD Value.bool h
theorem nb {a b : Nat} (h : Nat.ble a b = true := by exact rfl) : a ≤ b := Nat.le_of_ble_eq_true h
def Te : Nat → Nat → List Bool
 | 0, _ => []
 | n + 1, m => (m % 2 == 1) :: Te n (m / 2)
def bm (n m : Nat) : Array Bool := (Te n m).toArray
section
variable {P : Program} {n : Nat} {Q : py} {E : Nat → Value} {W : World}
theorem CI {α : Type} {co : Operand} {b : Bool} {x y : Code} {A B r : α} (hm : (if b = true then A else B) = r) (d : jH E co = .bool b) (h : b = true → A = r → CW P n x Q E W) (g : b = false → B = r → CW P n y Q E W) : CW P n (.cond co x y) Q E W :=
 Mn d (fun e => h e (Q9 e hm)) (fun e => g e (Rf e hm))
theorem CJ {d ρ : Type} {m : Option d} {k : d → Option ρ} {r : ρ} {x : Code} {K : (Nat → Value) → World → Prop} (hm : m.bind k = some r) (I : d → (Nat → Value) → World → Prop) (h1 : ∀ s, m = some s → CW P n x (qj (I s) Q) E W) (g : ∀ s E W, I s E W → k s = some r → K E W) : CW P n x (qj K Q) E W :=
 let ⟨s, a, b⟩ := bind_some hm
 NC (I s) (h1 s a) (fun E W h => g s E W h b)
theorem Tc {g ρ d : Type} {m : Option (d ⊕ g)} {k : d ⊕ g → Option ρ} {r : ρ} {x : Code} {K : (Nat → Value) → World → Prop} (hm : m.bind k = some r) (I : g → (Nat → Value) → World → Prop) (h1 : ∀ s, m = some s → k s = some r → CW P n x (qj (fun E W => ∃ t, s = .inr t ∧ I t E W) Q) E W) (i : ∀ s E W, I s E W → k (.inr s) = some r → K E W) : CW P n x (qj K Q) E W :=
 let ⟨s, a, b⟩ := bind_some hm
 NC (fun E W => ∃ t, s = .inr t ∧ I t E W) (h1 s a b) (fun E W ⟨t, e, h⟩ => i t E W h (by subst e; exact b))
theorem LJ {d ρ : Type} {m : Option d} {k : d → Option ρ} {r : ρ} {ops : Array Oper} {rest : List Oper} (hm : m.bind k = some r) (I : d → (Nat → Value) → World → Prop) (j : Nat) (g : ∀ s E W, I s E W → k s = some r → LW P n ops Q (rest.drop j) E W) (h1 : ∀ s, m = some s → (∀ E W, I s E W → LW P n ops Q (rest.drop j) E W) → LW P n ops Q rest E W) : LW P n ops Q rest E W :=
 let ⟨s, a, b⟩ := bind_some hm
 h1 s a (fun E W h => g s E W h b)
theorem PJ {d ρ : Type} {m : Option d} {k : d → Option ρ} {r : ρ} {ops : Array Oper} {S : Array Bool → World → Prop} {fuel : Nat} {listed : Array Bool} (hm : m.bind k = some r) (I : d → (Nat → Value) → World → Prop) (i : Array Bool) (g : Nat) (j : ∀ s E W, I s E W → k s = some r → PX P n ops Q S g i E W) (h1 : ∀ s, m = some s → (∀ E W, I s E W → PX P n ops Q S g i E W) → PX P n ops Q S fuel listed E W) : PX P n ops Q S fuel listed E W :=
 let ⟨s, a, b⟩ := bind_some hm
 h1 s a (fun E W h => j s E W h b)
theorem cF (n : Nat) {f : FuncId} {fn : Func} {c : Code} {args : List Value} {w : World} {R : Ending → World → Prop} (b : P.funcs[f]? = some fn) (d : fn.body = some c) (h : @CW AH P n c (wX P fn R) (Bh args) w) (i : fn.ntmps = n := by exact rfl) (g : args.length ≤ n := by exact nb) : Calls P f args.toArray w R := xl b d i g h
end
section
variable {dd : Bool} {P : Program} {fn : Func} {E : Nat → Value} {W w : World} {μ : kk} {L : List (Nat × Obj)}
theorem rP {t : Tmp} {v : Value} (b : ST dd kp w W μ L) (d : fn.results = #[.tmp t] := by exact rfl) (g : E t = v := by exact rfl) : wX P fn (fun e W' => e = .returned v ∧ Ex dd w W') .ret E W := kO d g ⟨rfl, b.ex⟩
end
theorem ST.Ep {dd : Bool} {F : Nat → Prop} {w W : World} {μ : kk} {x : Nat × Obj} {L : List (Nat × Obj)} (h : ST dd F w W μ (x :: L)) : ST dd F w W μ ([x] ++ L) := h
theorem ST.Rc {dd : Bool} {F : Nat → Prop} {w W : World} {μ : kk} {L : List (Nat × Obj)} (h : ST dd F w W μ L) : ST dd F w W μ ([] ++ L) := h
theorem aL {E : Nat → Value} {ax : Array Operand} {l : List Value} (h : ax.toList.map (jH E) = l) : ax.map (jH E) ++ (#[] : Array Value) = l.toArray := by subst h; apply Array.ext'; simp
section
variable {dd : Bool}
variable {P : Program} {E : Nat → Value} {W : World} {d : Option Nat} {ty : TypeId} {pos : String} {af : Array Edge} {g : Option (Nat × Bool)}
 {F : Nat → Prop} {w : World} {μ : kk} {L : List (Nat × Obj)}
variable {f : FuncId} {fv : Operand} {ax : Array Operand} {ats : Array TypeId} {args : List Value} {v : Value} {K : Value → World → Prop}
theorem Eg (b : ST dd F w W μ L) (he : ∀ args w, (callFunc f args).run P w = .ok (.enter f args) w) (i : jT dd P f args W v) (h : ∀ W', ST dd F w W' μ L → K v W') (j : jH E fv = .func (.func f) #[] #[] := by exact rfl) (ha : ax.toList.map (jH E) = args := by exact rfl) : mY P E ⟨d, .call ⟨.value fv, ax, ats⟩, ty, pos, af, g⟩ W K := ES b j he (aL ha) i h
theorem oW {α : Type} {e : TypeId} {enc : α → List Value} {k : Nat} {l : List α} {Y : List (Nat × Obj)} (b : ST dd F w W μ Y) (he : ∀ args w, (callFunc f args).run P w = .ok (.enter f args) w) (i : kY dd P f args W e enc k l) (h : ∀ W' v μ' R, ST dd F w W' μ' (R ++ Y) → kf μ μ' → Lo F w μ μ' → jX e enc k v l R → K v W') (j : jH E fv = .func (.func f) #[] #[] := by exact rfl) (ha : ax.toList.map (jH E) = args := by exact rfl) : mY P E ⟨d, .call ⟨.value fv, ax, ats⟩, ty, pos, af, g⟩ W K := LD _ b j he (aL ha) i h
theorem Fo {K' : Value → List (Nat × Obj) → World → Prop} {L0 L2 : List (Nat × Obj)} (i : ST dd F w W μ L) (j : L.Perm (L0 ++ L2)) (he : ∀ args w, (callFunc f args).run P w = .ok (.enter f args) w) (l : Er L0 W → (L0.map (·.1)).Nodup → kf μ (uc W L0) → (∀ b o, (b, o) ∈ L2 → uc W L0 b = some o) → lH dd P f args W L0 K') (h : ∀ W' v μ' L1, ST dd F w W' μ' (L1 ++ L2) → kf μ μ' → Lo F w μ μ' → (∀ b, W.heap.size ≤ b → ∀ o, uc W' L1 b = some o → μ' b = some o) → K' v L1 W' → K v W') (m : jH E fv = .func (.func f) #[] #[] := by exact rfl) (ha : ax.toList.map (jH E) = args := by exact rfl) : mY P E ⟨d, .call ⟨.value fv, ax, ats⟩, ty, pos, af, g⟩ W K :=
 P6 L0 L2 i j m he (aL ha) (fun a b c d => by have := l a b c d; simpa using this) h
theorem Ta {K' : Value → List (Nat × Obj) → kk → Prop} {L0 L2 : List (Nat × Obj)} (i : ST dd F w W μ L) (j : L.Perm (L0 ++ L2)) (he : ∀ args w, (callFunc f args).run P w = .ok (.enter f args) w) (l : Er L0 W → (L0.map (·.1)).Nodup → kf μ (uc W L0) → (∀ b o, (b, o) ∈ L2 → uc W L0 b = some o) → lP dd P f args W μ L0 K') (h : ∀ W' v μ' L1, ST dd F w W' μ' (L1 ++ L2) → kf μ μ' → Lo F w μ μ' → K' v L1 μ' → K v W') (m : jH E fv = .func (.func f) #[] #[] := by exact rfl) (ha : ax.toList.map (jH E) = args := by exact rfl) : mY P E ⟨d, .call ⟨.value fv, ax, ats⟩, ty, pos, af, g⟩ W K :=
 OZ L0 L2 i j m he (aL ha) (fun a b c d => by have := l a b c d; simpa using this) h
end
section
variable {E : Nat → Value} {x1 x2 x3 x4 x5 x6 x7 x8 : Operand} {v1 v2 v3 v4 v5 v6 v7 v8 : Value}
theorem Pu (h1 : jH E x1 = v1) : [x1].map (jH E) = [v1] := by rw [← h1]; rfl
theorem SX (h1 : jH E x1 = v1) (b : jH E x2 = v2) : [x1, x2].map (jH E) = [v1, v2] := by rw [← h1, ← b]; rfl
end
end Go.Proofs.YtjjjihkifgdhgaaGreatDoor
namespace Go.Proofs.YtjjjihkifgdhgaaGreatDoor
open Go.IntKind renaming wrap → wi0
open Go.RowKit
def TV (R : List (Nat × Obj)) (k : Nat) (p : Value) (i b : Nat) : Prop := ∃ g o, R = [(g, o)] ∧ p = .pointer (some ⟨g, i * k + b, none⟩)
theorem yH.f {R : List (Nat × Obj)} {k : Nat} {p : Value} {i : Nat} (h : yH R k p i) : TV R k p i 0 := h
section
variable {P : Program} {E : Nat → Value} {W : World} {d : Option Nat} {ty : TypeId} {pos : String} {af : Array Edge} {g : Option (Nat × Bool)}
 {dd : Bool} {F : Nat → Prop} {w : World} {μ : kk} {L : List (Nat × Obj)} {α : Type} {e' : TypeId} {enc : α → List Value} {k : Nat} {v : Value} {l : List α} {R : List (Nat × Obj)}
theorem jX.put (h : jX e' enc k v l R) (hk : ∀ x, (enc x).length = k) {p : Value} {i : Nat} (hp : yH R k p i) {x0 : α} (u : l[i]? = some x0) (x1 : α) :
  ∃ g b, R = [(g, .cells b e' (0, 0))] ∧ p = .pointer (some ⟨g, i * k, none⟩) ∧ i * k + k ≤ b.size ∧ (∀ j y, (enc x0)[j]? = some y → b[i * k + j]? = some y) ∧
   jX e' enc k v (l.set i x1) [(g, .cells (b.toList.take (i * k) ++ enc x1 ++ b.toList.drop (i * k + k)).toArray e' (0, 0))] := by
 have q : i < l.length := (bH.1 u).1
 obtain ⟨s, b, cap, rfl, rfl, t, A, n, E, rfl, G⟩ := AG h hk hp u
 have hle : i * k + k ≤ cap * k := by
  have : (i + 1) * k ≤ cap * k := cQ _ (by omega)
  rwa [cP, ji] at this
 have d : i * k + k ≤ l.length * k := by
  have : (i + 1) * k ≤ l.length * k := cQ _ (by omega)
  rwa [cP, ji] at this
 have hlen : l.length * k ≤ cap * k := cQ _ t
 refine ⟨s, b, rfl, rfl, by rw [n]; exact hle, G, .inr ⟨s, cap, _, by simp, rfl, by simpa using t, A, ?_, ?_⟩⟩
 ·show ((b.toList.take (i * k) ++ (enc x1) ++ b.toList.drop (i * k + k)).toArray).size = _
  have m : b.toList.length = cap * k := by simpa using n
  rw [dH, aF, aF, dp, fI, hk, m, dO (by omega)]; omega
 ·rw [gL, FD hk l i x1 q, ← E]
  have w : (b.toList.take (l.length * k)).take (i * k) = b.toList.take (i * k) := by rw [gj]; congr 1; omega
  have z : (b.toList.take (l.length * k)).drop (i * k + k) = (b.toList.drop (i * k + k)).take (l.length * k - (i * k + k)) := by rw [gZ]
  rw [w, z]
  show List.take (l.length * k) (b.toList.take (i * k) ++ enc x1 ++ b.toList.drop (i * k + k)) = _
  have m : b.toList.length = cap * k := by simpa using n
  have r : (b.toList.take (i * k) ++ enc x1).length = i * k + k := by rw [aF, dp, hk, m, dO (by omega)]
  rw [fc, dM (by rw [r]; exact d), r]
end
variable [M : Md]
theorem oc {v : Value} (h : v.cells.toList.all Value.oneCell' = true := by exact rfl) : ∀ u ∈ v.cells.toList, u.oneCell' = true := ev.1 h
theorem dc {p : Prop} [Decidable p] (h : p := by decide) : p := h
theorem kr {p : Prop} (h : p := by kernel_rfl) : p := h
theorem br {α : Sort _} {a b : α} (h : a = b := by rfl) : a = b := h
abbrev LO := List (Nat × Obj)
abbrev Ob (c : Array Value) (t : TypeId) : Obj := .cells c t (0, 0)
abbrev Ol (c : List Value) (t : TypeId) : Obj := .cells c.toArray t (0, 0)
theorem lM {P : Program} {t e : TypeId} {m k : Nat} {z : Value} {qs : Array (Nat × Value)} {cs : Array Value} (j : P.underlying t = some (.slice e)) (i : ∀ w, (sizeOf e).run P w = .ok k w) (n : ∀ w, (zeroValue e).run P w = .ok z w) (hm : m * k ≤ 16777216 := by decide) (g : qs.toList = (qs.toList.map (·.2)).zipIdx.map (fun p => (p.2, p.1)) := by exact rfl) (l : (qs.toList.map (·.2)).all (fun v => v.cells.size == k) = true := by exact rfl) (d : (qs.toList.map (·.2)).length = m := by exact rfl) (b : ((qs.toList.map (·.2)).flatMap (fun v => v.cells.toList)).toArray = cs := by exact rfl) (W : World) :
  (Instr.buildSlice t m qs).run P W = .ok (.slice (some ⟨W.heap.size, 0, none⟩) m m) (W.alloc (.cells cs e (0, 0))) :=
 ye _ j i n hm g (fun v h => eq_of_beq (ev.1 l v h)) d b W
section
variable {dd : Bool} {P : Program} {fn : Func} {E : Nat → Value} {W w : World} {μ : kk} {L L0 : List (Nat × Obj)}
theorem rQ {α : Type} {f : α → Value} {a r : α} {t : Tmp} (hm : some a = some r) (b : ST dd kp w W μ L) (d : fn.results = #[.tmp t] := by exact rfl) (g : E t = f a := by exact rfl) : wX P fn (fun e W' => e = .returned (f r) ∧ Ex dd w W') .ret E W := by
 obtain rfl := sj hm; exact kO d g ⟨rfl, b.ex⟩
theorem cG (n : Nat) {f : FuncId} {c : Code} {args : List Value} {v : Value} (b : P.funcs[f]? = some fn) (d : fn.body = some c) (h : ST dd kp w w (hp w) [] → @CW AH P n c (wX P fn (fun e j => e = .returned v ∧ Ex dd w j)) (Bh args) w) (i : fn.ntmps = n := by exact rfl) (g : args.length ≤ n := by exact nb) : jT dd P f args w v := xl b d i g (h (ST.start w))
theorem sP {K : Value → List (Nat × Obj) → World → Prop} (n : Nat) {f : FuncId} {c : Code} {args : List Value} (b : P.funcs[f]? = some fn) (g : fn.body = some c) (h : ST dd kp w w (hp w) [] → @CW AH P n c (wX P fn (fun e d => ∃ v L1, e = .returned v ∧ tF dd [] L1 w d ∧ K v L1 d)) (Bh args) w) (j : fn.ntmps = n := by exact rfl) (i : args.length ≤ n := by exact nb) : lH dd P f args w [] K := xl b g j i (h (ST.start w))
theorem Ab {K : Value → List (Nat × Obj) → World → Prop} (g : nz μ L0 w) (n : Nat) {f : FuncId} {c : Code} {args : List Value} (b : P.funcs[f]? = some fn) (i : fn.body = some c) (h : ST dd (keys L0) w w μ L0 → @CW AH P n c (wX P fn (fun e d => ∃ v L1, e = .returned v ∧ tF dd L0 L1 w d ∧ K v L1 d)) (Bh args) w) (l : fn.ntmps = n := by exact rfl) (j : args.length ≤ n := by exact nb) : lH dd P f args w L0 K := xl b i l j (h (ST.G0 g))
theorem uo {K : Value → List (Nat × Obj) → kk → Prop} (g : nz μ L0 w) (n : Nat) {f : FuncId} {c : Code} {args : List Value} (b : P.funcs[f]? = some fn) (i : fn.body = some c) (h : ST dd (keys L0) w w μ L0 → @CW AH P n c (wX P fn (fun e d => ∃ v L1 μ1, e = .returned v ∧ tF dd L0 L1 w d ∧ kf μ μ1 ∧ Lo (keys L0) w μ μ1 ∧ kf μ1 (uc d L1) ∧ K v L1 μ1)) (Bh args) w) (l : fn.ntmps = n := by exact rfl) (j : args.length ≤ n := by exact nb) : lP dd P f args w μ L0 K := xl b i l j (h (ST.G0 g))
end
section
variable {dd : Bool}
variable {P : Program} {E : Nat → Value} {W : World} {d : Option Nat} {ty : TypeId} {pos : String} {af : Array Edge} {g : Option (Nat × Bool)}
 {F : Nat → Prop} {w : World} {μ : kk} {L : List (Nat × Obj)}
variable {f : FuncId} {fv : Operand} {ax : Array Operand} {ats : Array TypeId} {args : List Value} {v : Value} {K : Value → World → Prop}
theorem eM {K' : Value → List (Nat × Obj) → World → Prop} {L0 L2 : List (Nat × Obj)} (i : ST dd F w W μ L) (j : L.Perm (L0 ++ L2)) (he : ∀ args w, (callFunc f args).run P w = .ok (.enter f args) w) (l : nz (uc W L0) L0 W → kf μ (uc W L0) → lH dd P f args W L0 K') (h : ∀ W' v μ' L1, ST dd F w W' μ' (L1 ++ L2) → kf μ μ' → Lo F w μ μ' → (∀ b, W.heap.size ≤ b → ∀ o, uc W' L1 b = some o → μ' b = some o) → K' v L1 W' → K v W') (m : jH E fv = .func (.func f) #[] #[] := by exact rfl) (ha : ax.toList.map (jH E) = args := by exact rfl) : mY P E ⟨d, .call ⟨.value fv, ax, ats⟩, ty, pos, af, g⟩ W K :=
 Fo i j he (fun a b c _ => l ⟨a, b, kf.refl _⟩ c) h m ha
theorem eD {K' : Value → List (Nat × Obj) → kk → Prop} {L0 L2 : List (Nat × Obj)} (i : ST dd F w W μ L) (j : L.Perm (L0 ++ L2)) (he : ∀ args w, (callFunc f args).run P w = .ok (.enter f args) w) (l : nz μ L0 W → lP dd P f args W μ L0 K') (h : ∀ W' v μ' L1, ST dd F w W' μ' (L1 ++ L2) → kf μ μ' → Lo F w μ μ' → K' v L1 μ' → K v W') (m : jH E fv = .func (.func f) #[] #[] := by exact rfl) (ha : ax.toList.map (jH E) = args := by exact rfl) : mY P E ⟨d, .call ⟨.value fv, ax, ats⟩, ty, pos, af, g⟩ W K :=
 Ta i j he (fun a b c _ => l ⟨a, b, c⟩) h m ha
end
def Nn (op : BinOp) : Value → Value → Option Value
 | .int k a, .int k' b => if k = k' then IG k op a b else none
 | _, _ => none
def Re (i : Nat) : Value → Option Value
 | .tuple vs => vs[i]?
 | _ => none
def IN : Value → Bool
 | .pointer (some ⟨_, _, none⟩) => true
 | _ => false
def Q4 (o : Nat) : Value → Value
 | .pointer (some ⟨b, k, none⟩) => .pointer (some ⟨b, k + o, none⟩)
 | v => v
theorem H9 {v : Value} (h : IN v = true) : ∃ b k, v = .pointer (some ⟨b, k, none⟩) := by
 unfold IN at h; split at h
 ·exact ⟨_, _, rfl⟩
 ·cases h
section
variable {P : Program} {n : Nat} {Q : py} {E : Nat → Value} {W : World} {ops : Array Oper} {rest : List Oper}
 {d j t : Nat} {want b : Bool} {v : Value} {ins : Go.Op} {ty : TypeId} {pos : String} {af : Array Edge} {A : Value → Prop} {x y : Operand}
theorem Wm (h : LW P n ops Q rest (nO E d (jH E x)) W) (b : d < n := by decide) : LW P n ops Q (⟨some d, .move x, ty, pos, af, none⟩ :: rest) E W := V (jC rfl) h b
theorem Wa (h : LW P n ops Q rest (nO E d (jH E x)) W) (b : d < n := by decide) : LW P n ops Q (⟨some d, .assign x, ty, pos, af, none⟩ :: rest) E W := V (lO rfl) h b
theorem Wh (g : jH E x = v) (h : LW P n ops Q rest (nO E d v) W) (b : d < n := by decide) : LW P n ops Q (⟨some d, .move x, ty, pos, af, none⟩ :: rest) E W := V (jC g) h b
theorem Wg (g : jH E x = v) (h : LW P n ops Q rest (nO E d v) W) (b : d < n := by decide) : LW P n ops Q (⟨some d, .assign x, ty, pos, af, none⟩ :: rest) E W := V (lO g) h b
theorem Wx {i : Nat} (b : Re i (jH E x) = some v) (h : LW P n ops Q rest (nO E d v) W) (g : d < n := by decide) : LW P n ops Q (⟨some d, .extract x i, ty, pos, af, none⟩ :: rest) E W := by
 unfold Re at b; split at b
 ·rename_i vs e; exact V (uU e b) h g
 ·cases b
theorem Wi {op : BinOp} {tx tv : TypeId} (g : Nn op (jH E x) (jH E y) = some v) (h : LW P n ops Q rest (nO E d v) W) (l : d < n := by decide) : LW P n ops Q (⟨some d, .binOp op tx x y tv, ty, pos, af, none⟩ :: rest) E W := by
 unfold Nn at g; split at g
 ·rename_i k a k' b i j
  split at g
  ·rename_i e; subst e; exact V (kv i j g) h l
  ·cases g
 ·cases g
theorem Wf {t : TypeId} {f off : Nat} (g : lG P t f off) (h : LW P n ops Q rest (nO E d (Q4 off (jH E x))) W) (hp : IN (jH E x) = true := by exact rfl) (i : d < n := by decide) : LW P n ops Q (⟨some d, .fieldAddr t x f, ty, pos, af, none⟩ :: rest) E W := by
 obtain ⟨b, k, e⟩ := H9 hp
 refine V (jz g e) ?_ i
 rw [e] at h; exact h
theorem Wn (h : LW P n ops Q rest (nO E d (jH E x)) W) (hp : IN (jH E x) = true := by exact rfl) (g : d < n := by decide) : LW P n ops Q (⟨some d, .nilCheck x, ty, pos, af, none⟩ :: rest) E W := by
 obtain ⟨b, k, e⟩ := H9 hp
 refine V (mJ e) ?_ g
 rw [e] at h; exact h
theorem un (h : b = !want) (k : LW P n ops Q rest (nO E d undef) W) (i : (ops[j]?).bind (·.dst) = some t := by exact rfl) (g : E t = .bool b := by exact rfl) (m : t < n := by decide) (l : d < n := by decide) :
  LW P n ops Q (⟨some d, ins, ty, pos, af, some (j, want)⟩ :: rest) E W := Vn i (by rw [g, h]) k m l
theorem ug (h : b = want) (m : lR P E ⟨some d, ins, ty, pos, af, some (j, want)⟩ W v W) (k : LW P n ops Q rest (nO E d v) W) (i : (ops[j]?).bind (·.dst) = some t := by exact rfl) (g : E t = .bool b := by exact rfl) (p : t < n := by decide) (l : d < n := by decide) :
  LW P n ops Q (⟨some d, ins, ty, pos, af, some (j, want)⟩ :: rest) E W := Vg i (by rw [g, h]) m k p l
theorem rB (h : b = want) (k : mY P E ⟨some d, ins, ty, pos, af, some (j, want)⟩ W fun v W' => LW P n ops Q rest (nO E d v) W') (i : (ops[j]?).bind (·.dst) = some t := by exact rfl) (g : E t = .bool b := by exact rfl) (m : t < n := by decide) (l : d < n := by decide) :
  LW P n ops Q (⟨some d, ins, ty, pos, af, some (j, want)⟩ :: rest) E W := NM i (by rw [g, h]) k m l
theorem Nq (h : b = want) (m : ∃ p, A p ∧ ∀ W, lR P E ⟨some d, ins, ty, pos, af, some (j, want)⟩ W p W) (k : ∀ p, A p → LW P n ops Q rest (nO E d p) W) (i : (ops[j]?).bind (·.dst) = some t := by exact rfl) (g : E t = .bool b := by exact rfl) (q : t < n := by decide) (l : d < n := by decide) :
  LW P n ops Q (⟨some d, ins, ty, pos, af, some (j, want)⟩ :: rest) E W := TW i (by rw [g, h]) m k q l
section
variable {dd : Bool} {F : Nat → Prop} {w : World} {μ : kk} {L : List (Nat × Obj)} {T : TypeId} {a off : Nat} {cs : Array Value} {fr : Nat × Nat}
theorem VA {t : TypeId} (b : ST dd F w W μ L) (i : (a, Obj.cells cs T fr) ∈ L) (ys : List Value) (g : ∀ w, (isAgg t).run P w = .ok true w) (j : ∀ w, (sizeOf t).run P w = .ok ys.length w) (h : LW P n ops Q rest (nO E d (.agg ys.toArray)) W) (m : jH E x = .pointer (some ⟨a, off, none⟩) := by exact rfl) (p : (cs.toList.drop off).take ys.length = ys := by exact rfl) (l : d < n := by decide) : LW P n ops Q (⟨some d, .load t x, ty, pos, af, none⟩ :: rest) E W := V (jv m (jy b.has i ys p g j)) h l
theorem VB {t : TypeId} (b : ST dd F w W μ L) (i : (a, Obj.cells cs T fr) ∈ L) (l : jH E x = .pointer (some ⟨a, off, none⟩)) (m : cs[off]? = some v) (g : ∀ w, (isAgg t).run P w = .ok false w) (h : LW P n ops Q rest (nO E d v) W) (j : d < n := by decide) : LW P n ops Q (⟨some d, .load t x, ty, pos, af, none⟩ :: rest) E W := V (jv l (jK b.has i m g)) h j
end
section
variable {K : (Nat → Value) → World → Prop} {Q' : py} {c : Code} {id id2 : Nat} {l : List Oper} {z : Code}
theorem sg (h : LW P n l.toArray (qj (fun E W => CW P n c Q E W) Q) l E W) : CW P n (.seq (.region id l.toArray false) c) Q E W := jI (jG h)
theorem ln (h : K E W) : LW P n ops (qj K Q) [] E W := jU (jE h)
theorem lr (h : LW P n l.toArray (qj (fun E W => CW P n c Q E W) Q) l E W) : LW P n ops (qj (fun E W => CW P n (.seq (.region id l.toArray false) c) Q E W) Q') [] E W := jU (jE (jI (jG h)))
theorem lS (h : LW P n l.toArray (qj (fun E W => CW P n c (qj (fun E W => CW P n z Q E W) Q) E W) (qj (fun E W => CW P n z Q E W) Q)) l E W) : LW P n ops (qj (fun E W => CW P n (.seq (.seq (.region id l.toArray false) c) z) Q E W) Q') [] E W := jU (jE (jI (jI (jG h))))
theorem bg (h : LW P n l.toArray (qj (fun E W => CW P n c (vZ id2 Q) E W) (vZ id2 Q)) l E W) : CW P n (.block id2 (.seq (.region id l.toArray false) c)) Q E W := lA (jI (jG h))
theorem kg (h : LW P n l.toArray (qj (fun E W => CW P n c Q E W) Q) l E W) : CW P n .skip (qj (fun E W => CW P n (.seq (.region id l.toArray false) c) Q E W) Q') E W := kG (jE (jI (jG h)))
theorem kS (h : LW P n l.toArray (qj (fun E W => CW P n c (qj (fun E W => CW P n z Q E W) Q) E W) (qj (fun E W => CW P n z Q E W) Q)) l E W) : CW P n .skip (qj (fun E W => CW P n (.seq (.seq (.region id l.toArray false) c) z) Q E W) Q') E W := kG (jE (jI (jI (jG h))))
theorem lt (h : Q .ret E W) : LW P n ops (qj (fun E W => CW P n .ret Q E W) Q') [] E W := jU (jE (jZ h))
theorem kn (h : K E W) : CW P n .skip (qj K Q) E W := kG (jE h)
end
end
theorem JJ.mono {α β : Type} {P : Program} {fv : Value} {μ μ0 : kk} {d : α → List Value} {g : β → Value} {pm : α → Option β} (h : JJ P fv μ d g pm) (l : kf μ μ0) : JJ P fv μ0 d g pm := by
 obtain ⟨f, b, h1, i, j⟩ := h
 exact ⟨f, b, h1, i, fun W x r h => j W x r (l.trans h)⟩
theorem JJ.form {α β : Type} {P : Program} {fv : Value} {μ : kk} {d : α → List Value} {g : β → Value} {pm : α → Option β} (h : JJ P fv μ d g pm) : ∃ f a b, fv = .func f a b := let ⟨f, b, h, _⟩ := h; ⟨_, _, b, h⟩
def F7 (l s : ByteArray) : Option ByteArray := if l.size + s.size ≤ 140737488355328 then some (l ++ s) else none
def Q1 (l : ByteArray) : Option ByteArray := some l
def wO (n : Int) : ByteArray := ⟨(Go.Lib.itoa n).toArray⟩
def zr (n : Int) : Option ByteArray := if -9223372036854775808 ≤ n ∧ n ≤ 9223372036854775807 then some (wO n) else none
end Go.Proofs.YtjjjihkifgdhgaaGreatDoor
namespace Go.Proofs.YtjjjihkifgdhgaaGreatDoor
open Go.IntKind renaming wrap → wi0
open Go.RowKit
section
variable {P : Program} {E : Nat → Value} {W : World} {d : Option Nat} {x y : Operand} {tx tv ty : TypeId} {pos : String} {af : Array Edge} {g : Option (Nat × Bool)} {ms : List (String × TypeId)}
theorem FM {tx e : TypeId} {k : Nat} {p : Addr} (dd : Nat) (d : P.underlying tx = some (.pointer e)) (b : ∀ w, (sizeOf e).run P w = .ok (k + 1) w) (W : World) : (Op.equalIn (dd + 1) tx (.pointer (some p)) (.pointer (some p))).run P W = .ok true W := by
 simp [Op.equalIn, aY d, b W, run_sameAddr_same]
theorem Kp {e : TypeId} {k : Nat} {p : Addr} (i : P.underlying tx = some (.pointer e)) (h : ∀ w, (sizeOf e).run P w = .ok (k + 1) w) (j : jH E x = .pointer (some p)) (l : jH E y = .pointer (some p)) : lR P E ⟨d, .binOp .neq tx x y tv, ty, pos, af, g⟩ W (.bool false) W := by
 show (do let r ← (do eqGuard .neq tx x y (jH E x) (jH E y); binOp .neq tx (jH E x) (jH E y)); pure (.value r) : Sem Next).run P W = _
 rw [j, l]
 have b := FM (p := p) 9999 i h W
 simp [eqGuard, binOp, Op.equal, Op.maxDepth, b]
end
theorem pZ.form {κ γ : Type} {kenc : κ → Value} {Q : Value → γ → List (Nat × Obj) → Prop} {μ : kk} {v : Value} {l : List (κ × γ)} (h : pZ kenc Q μ v l) : ∃ m, v = .map m := by
 obtain ⟨b, R, h, _⟩ := h
 obtain ⟨m, rfl⟩ := h.form
 exact ⟨_, rfl⟩
theorem lP.mono {dd : Bool} {P : Program} {f : FuncId} {args : List Value} {w : World} {μ0 : kk} {L0 : List (Nat × Obj)} {K K' : Value → List (Nat × Obj) → kk → Prop} (h : lP dd P f args w μ0 L0 K) (hk : ∀ v L1 μ1, kf μ0 μ1 → K v L1 μ1 → K' v L1 μ1) : lP dd P f args w μ0 L0 K' :=
 dr h fun _ _ ⟨v, L1, μ1, h1, d, b, g, i, j⟩ => ⟨v, L1, μ1, h1, d, b, g, i, hk _ _ _ b j⟩
section
variable {dd : Bool} {F : Nat → Prop} {w W : World} {μ : kk} {L : List (Nat × Obj)} {l : Nat}
theorem Al {w : World} {b : Nat} {o : Obj} (h : b ≠ l) : (w.putObj l o).heap[b]? = w.heap[b]? := World.putObj_heap_other h
theorem ST.frame (h : ST dd F w W μ L) (o : Obj) (n : l < w.heap.size) (m : ¬ F l) (hm : μ l = none) : ST dd F (w.putObj l o) (W.putObj l o) μ L := by
 refine ⟨h.os, h.tape, h.output, h.drawn, by simpa using h.size, fun b g p => ?_, fun b x g => ?_, fun b x g => ?_, h.nd⟩
 ·by_cases d : b = l
  ·subst d
   rw [World.putObj_heap_same (by have := h.size; omega), World.putObj_heap_same n]
  ·rw [Al d, Al d]
   exact h.lZ b (by simpa using g) p
 ·have d : b ≠ l := fun e => by rw [e, hm] at g; cases g
  rw [Al d]; exact h.mem b x g
 ·obtain ⟨h1, j, i⟩ := h.box b x g
  have d : b ≠ l := fun e => by
   subst e
   rcases i with i | i
   ·omega
   ·exact m i
  rw [Al d]
  exact ⟨h1, j, by simpa using i⟩
end
theorem DX (s : ByteArray) : Go.Lib.strCells s = ((my s).map (kN .u8)).flatten := by
 unfold Go.Lib.strCells my
 induction s.data.toList with
 | nil => rfl
 | cons b l ih => simp only [bJ, bO, ih]; rfl
theorem FN (k : IntKind) (l : List Int) : ((l.map (kN k)).flatten).length = l.length := by
 rw [pB (k := 1) (fun _ => rfl), iC]
section
variable {P : Program} {dd : Bool} {F : Nat → Prop} {w W : World} {μ : kk} {R : List (Nat × Obj)} {E : Nat → Value} {d : Option Nat} {ty : TypeId} {pos : String} {af : Array Edge} {g : Option (Nat × Bool)}
theorem Ky {K : Value → World → Prop} {e t u : TypeId} {v : Value} {l r : List Int} {str : ByteArray} (X : List (Nat × Obj)) {Y : List (Nat × Obj)} {x y : Operand} {i : TypeInfo} (p : ST dd F w W μ (X ++ (R ++ Y))) (ht : P.underlying t = some (.slice e)) (hu : P.underlying u = some .string) (Z : P.info? e = some i) (hz : i.zero = some (.int .u8 0)) (L : i.size = 1) (Q : i.bytes = 1) (hx : jH E x = v) (hy : jH E y = .string str) (hR : jX e (kN .u8) 1 v l R) (U : lX 1 l (my str) = some r) (h : ∀ W' v' R', ST dd F w W' μ (X ++ (R' ++ Y)) → jX e (kN .u8) 1 v' r R' → (v = .slice none 0 0 → str.size = 0 → v' = .slice none 0 0) → K v' W') : mY P E ⟨d, .call ⟨.builtin .append, #[x, y], #[t, u]⟩, ty, pos, af, g⟩ W K := by
 unfold lX at U
 split at U
 case isFalse => cases U
 rename_i O
 cases U
 rw [mU, iC] at O
 obtain ⟨a1, M⟩ := O
 have hM : maxLen = 9223372036854775807 := by unfold maxLen; rfl
 have A : ∀ (V : Value) (W' : World), (Builtin.append_ #[t, u] ty #[v, .string str]).run P W = .ok V W' → (execOp (jH E) ⟨d, .call ⟨.builtin .append, #[x, y], #[t, u]⟩, ty, pos, af, g⟩).run P W = .ok (.value V) W' := by
  intro V W' hV
  show (do let d ← resolve (jH E) ⟨.builtin .append, #[x, y], #[t, u]⟩ ty; invoke d.target d.args : Sem Next).run P W = _
  simp [resolve, invoke, builtin, hx, hy, hV]
 have s : ((l ++ my str).map (kN .u8)).flatten = (l.map (kN .u8)).flatten ++ Go.Lib.strCells str := by rw [cE, cO, DX]
 have m : (l ++ my str).length = l.length + str.size := by rw [aF, mU]
 have ad : (Value.int IntKind.u8 0).cells.size = 1 := rfl
 have fresh : ∀ (lZ : Nat) (L' : List (Nat × Obj)), ¬ (v = .slice none 0 0 ∧ str.size = 0) → ST dd F w W μ L' → L'.Perm (X ++ Y) → (Builtin.append_ #[t, u] ty #[v, .string str]).run P W = .ok (.slice (some ⟨W.heap.size, 0, none⟩) (l.length + str.size) (grownCap W (l.length + str.size) lZ e))
    (W.drew.alloc (.cells (((l.map (kN .u8)).flatten ++ Go.Lib.strCells str).toArray ++ Builtin.zeroCells (Value.int .u8 0).cells (grownCap W (l.length + str.size) lZ e - (l.length + str.size))) e)) →
   mY P E ⟨d, .call ⟨.builtin .append, #[x, y], #[t, u]⟩, ty, pos, af, g⟩ W K := by
  intro lZ L' hv J hp I
  have a8 := jh W (l.length + str.size) lZ e
  have a7 : grownCap W (l.length + str.size) lZ e ≤ maxLen := fY W (l.length + str.size) lZ e M
  have hlen : ((l.map (kN .u8)).flatten ++ Go.Lib.strCells str).length = l.length + str.size := by rw [aF, FN, gq]
  generalize T : ((l.map (kN .u8)).flatten ++ Go.Lib.strCells str).toArray ++ Builtin.zeroCells (Value.int .u8 0).cells (grownCap W (l.length + str.size) lZ e - (l.length + str.size)) = cs at I
  refine .inl ⟨_, _, A _ _ I, h _ _ [(W.heap.size, .cells cs e)] ?_ (.inr ⟨W.heap.size, _, cs, by rw [m], rfl, by rw [m]; exact a8, a7, ?_, ?_⟩) fun q1 q2 => absurd ⟨q1, q2⟩ hv⟩
  ·exact ((J.perm hp).drew.alloc _).perm (List.perm_middle.symm)
  ·subst T
   simp only [iB, dH, ic, ad, hlen]
   omega
  ·subst T
   rw [m, s, iC, ← hlen]
   simp only [gO]
   exact gp
 rcases hR with ⟨rfl, rfl, rfl⟩ | ⟨G, cap, n, rfl, rfl, q1, q2, q3, q4⟩
 ·rcases ef str.size with J | J
  ·have hf := Go.Lib.run_firstCells_string (P := P) W 1 str
   have a6 : my str = [] := aV (by rw [mU]; exact J)
   refine .inl ⟨.slice none 0 0, W, A _ _ ?_, h W _ [] p (.inl ⟨rfl, by rw [a6]; rfl, rfl⟩) fun _ _ => rfl⟩
   simp [Builtin.append_, aY ht, aY hu, sizeOf, typeInfo, Z, L, Builtin.lenOf, J]
   rw [J] at hf
   simp [hf]
  ·have I := run_append_nil_string (P := P) W t u ty e i (.int .u8 0) ht hu Z hz str J (by simp at M; omega) (by rw [Q]; simp at a1; omega)
   refine fresh 0 _ (fun q => by omega) p (.refl _) ?_
   have e1 : (str.data.map fun b => Value.int .u8 b.toNat) = (Go.Lib.strCells str).toArray := by
    apply Array.ext'
    simp [Go.Lib.strCells]
   rw [e1] at I
   simpa using I
 ·have hg := (p.box G (.cells n e (0, 0)) (by simp)).1
  by_cases z : l.length + str.size ≤ cap
  ·have I := Go.Lib.run_append_room_string (P := P) W t u ty e i ht hu Z L G l.length cap n hg str z (by omega)
   refine .inl ⟨_, _, A _ _ I, h _ _ [(G, _)] (ST.put p ⟨rfl, rfl, rfl, aW _, by simp⟩ (fun k hk => setRow_other W G k _ hk) (setRow_heap W G n _ e _ hg)) (.inr ⟨G, cap, _, by rw [m], rfl, by rw [m]; exact z, q2, ?_, ?_⟩) fun q => by cases q⟩
   ·simp only [dH, aF, dp, fI, dE, gq]
    omega
   ·have ab : n.toList.take l.length = (l.map (kN .u8)).flatten := by simpa using q4
    rw [m, s, iC, ab, show l.length + str.size = ((l.map (kN .u8)).flatten ++ Go.Lib.strCells str).length by rw [aF, FN, gq]]
    simp only [aN]
    rw [← aN]
    exact gp
  ·have holds : ∀ j u, ((l.map (kN .u8)).flatten)[j]? = some u → W.cell? ((⟨G, 0, none⟩ : Addr).add j) = some u := by
    intro j u hj
    rw [dD, fi W G (0 + j) n e (0, 0) hg, dX]
    rw [← q4] at hj
    have aa := (bH.1 hj).1
    rw [dp] at aa
    rw [dA (by omega)] at hj
    simpa using hj
   have I := Go.Lib.run_append_grow_string (P := P) W t u ty e i (.int .u8 0) ht hu Z hz ⟨G, 0, none⟩ l.length cap ((l.map (kN .u8)).flatten) (by rw [FN, L, iC]) holds str (by omega) (by omega) (by rw [Q]; exact growslice_fits (by omega) (by omega))
   refine fresh cap (X ++ Y) (fun q => by cases q.1) (p.sublist (by simp)) (.refl _) ?_
   simpa using I
theorem NV {s t : TypeId} {x : Operand} {v b : Value} (i : jH E x = v) (h : (convert s t v).run P W = .ok b W) : lR P E ⟨d, .convert s t x, ty, pos, af, g⟩ W b W := by
 show (do pure (.value (← convert s t (jH E x))) : Sem Next).run P W = _
 rw [i]
 simp only [cH, h, bQ, dz]
theorem FH {b : Nat} {cs : Array Value} {T : TypeId} {fr : Nat × Nat} {W : World} (h : W.heap[b]? = some (.cells cs T fr)) : W.shape? b = some (T, cs.size) := by simp [World.shape?, h]
def Je (T e : TypeId) (v : Value) (l : ByteArray) (R : List (Nat × Obj)) : Prop :=
 ∃ b a u S, v = .pointer (some ⟨b, 0, none⟩) ∧ (a = .pointer none ∨ a = .pointer (some ⟨b, 0, none⟩)) ∧ R = (b, .cells #[a, u] T (0, 0)) :: S ∧ jX e (kN .u8) 1 u (my l) S ∧ (l.size = 0 → u = .slice none 0 0)
theorem Mp (l s : ByteArray) : my (l ++ s) = my l ++ my s := by
 simp [my, ByteArray.data_append]
theorem Oa {l s r : ByteArray} (h : F7 l s = some r) : lX 1 (my l) (my s) = some (my r) := by
 unfold F7 at h
 split at h
 case isFalse => cases h
 rename_i b
 cases h
 unfold lX
 rw [mU, mU, Mp, bB ⟨by omega, by unfold maxLen; omega⟩]
theorem OD {l s r : ByteArray} (h : F7 l s = some r) (b : r.size = 0) : l.size = 0 ∧ s.size = 0 := by
 unfold F7 at h
 split at h
 case isFalse => cases h
 cases h
 rw [dZ] at b
 omega
theorem BS (w : World) (g n k : Nat) (hk : k ≠ g) : (w.freeze ⟨g, 0, none⟩ n).heap[k]? = w.heap[k]? := by
 unfold World.freeze
 split
 ·rfl
 ·simp [dS, Ne.symm hk]
theorem NH {L : List (Nat × Obj)} {g n : Nat} {o : Obj} (i : ST dd F w W μ ((g, o) :: L)) : ST dd F w (W.freeze ⟨g, 0, none⟩ n) μ L := by
 have h1 := i.sublist (List.sublist_cons_self _ _)
 have r := i.box g o (.head _)
 have l : ∀ b q, (b, q) ∈ L → b ≠ g := fun b q d e => by
  subst e
  have := i.nd
  simp only [bJ, dx] at this
  exact this.1 (bM.2 ⟨_, d, rfl⟩)
 have m : (W.freeze ⟨g, 0, none⟩ n).heap.size = W.heap.size := by unfold World.freeze; split <;> simp
 have j : (W.freeze ⟨g, 0, none⟩ n).os = W.os ∧ (W.freeze ⟨g, 0, none⟩ n).tape = W.tape ∧ (W.freeze ⟨g, 0, none⟩ n).output = W.output ∧ (W.freeze ⟨g, 0, none⟩ n).drawn = W.drawn := by unfold World.freeze; split <;> exact ⟨rfl, rfl, rfl, rfl⟩
 refine ⟨j.1.trans h1.os, j.2.1.trans h1.tape, j.2.2.1.trans h1.output, by rw [j.2.2.2]; exact h1.drawn, by rw [m]; exact h1.size, fun b d p => ?_, fun b q d => ?_, fun b q d => ?_, h1.nd⟩
 ·rw [BS _ _ _ _ (fun e => by subst e; rcases r.2.2 with h | h; omega; exact p h)]; exact h1.lZ b d p
 ·rw [BS _ _ _ _ (fun e => by subst e; rw [r.2.1] at d; cases d)]; exact h1.mem b q d
 ·rw [BS _ _ _ _ (l b q d)]; exact h1.box b q d
theorem OM {x : Operand} {u : Value} {ats : Array TypeId} {q : Option Addr} (i : jH E x = u) (h : ∃ a n c, u = .slice a n c ∧ (a = none ∨ c ≠ 0) ∧ q = a) : lR P E ⟨d, .call ⟨.builtin .unsafeSliceData, #[x], ats⟩, ty, pos, af, g⟩ W (.pointer q) W := by
 obtain ⟨a, n, c, rfl, h1, rfl⟩ := h
 show (do let d ← resolve (jH E) ⟨.builtin .unsafeSliceData, #[x], ats⟩ ty; invoke d.target d.args : Sem Next).run P W = _
 have b : (Builtin.unsafeSliceData_ ats ty #[.slice q n c]).run P W = .ok (.pointer q) W := by
  rcases q with _ | a
  ·exact Go.Lib.run_unsafeSliceData_nil (P := P) W _ _ _ _
  ·exact Go.Lib.run_unsafeSliceData_row (P := P) W _ _ _ _ _ (h1.resolve_left (by simp))
 simp [resolve, invoke, builtin, i, b]
theorem LC {K : Value → World → Prop} {L : List (Nat × Obj)} {t e : TypeId} (i : ST dd F w W μ L) (j : ∀ w, (zeroValue t).run P w = .ok (.agg #[.pointer none, .slice none 0 0]) w) (h : ∀ W' v R, ST dd F w W' μ (R ++ L) → Je t e v ⟨#[]⟩ R → K v W') : mY P E ⟨d, .alloc t, ty, pos, af, g⟩ W K :=
 kh i j fun W' b i => h W' _ [(b, _)] i ⟨b, _, _, [], rfl, .inl rfl, rfl, .inl ⟨rfl, rfl, rfl⟩, fun _ => rfl⟩
theorem Mc {l : ByteArray} (h : my l = []) : l = ⟨#[]⟩ := by
 have : l.data.toList = [] := by simpa [my] using h
 exact fR (by simpa using this)
theorem Ko {K : Value → World → Prop} {L S : List (Nat × Obj)} {x y : Operand} {p it e : TypeId} {q : Option Addr} {l : ByteArray} {n c : Nat} (i : ST dd F w W μ (S ++ L)) (hp : P.underlying p = some (.pointer e)) (R : P.cellsOf e = 1) (U : jH E x = .pointer q) (Y : jH E y = .int .i64 (n : Nat)) (O : jX e (kN .u8) 1 (.slice q n c) (my l) S) (h : ∀ W', ST dd F w W' μ L → K (.string l) W') : mY P E ⟨d, .call ⟨.builtin .unsafeString, #[x, y], #[p, it]⟩, ty, pos, af, g⟩ W K := by
 have m : ∀ (V : Value) (W' : World), (Builtin.unsafeString_ #[p, it] ty #[.pointer q, .int .i64 (n : Nat)]).run P W = .ok V W' → (execOp (jH E) ⟨d, .call ⟨.builtin .unsafeString, #[x, y], #[p, it]⟩, ty, pos, af, g⟩).run P W = .ok (.value V) W' := by
  intro V W' Q
  show (do let d ← resolve (jH E) ⟨.builtin .unsafeString, #[x, y], #[p, it]⟩ ty; invoke d.target d.args : Sem Next).run P W = _
  simp [resolve, invoke, builtin, U, Y, Q]
 have none : my l = [] → n = 0 → ∀ A : ST dd F w W μ L, mY P E ⟨d, .call ⟨.builtin .unsafeString, #[x, y], #[p, it]⟩, ty, pos, af, g⟩ W K := by
  intro h1 t A
  subst t
  rw [Mc h1] at h
  exact .inl ⟨_, _, m _ _ (Go.Lib.run_unsafeString_none (P := P) W p it ty q), h W A⟩
 rcases O with ⟨h1, t, rfl⟩ | ⟨r, cap, b, h1, rfl, q1, Z, q3, q4⟩
 ·cases h1
  exact none t rfl i
 ·cases h1
  by_cases s : my l = []
  ·exact none s (by rw [s]; rfl) (i.sublist (by simp))
  ·have v : l.data.toList ≠ [] := by simpa [my] using s
   have u : (my l).length = l.data.toList.length := by simp [my]
   have G := (i.box r (.cells b e (0, 0)) (by simp)).1
   have J := Go.Lib.run_unsafeString_row (P := P) W p it ty e hp R r b.size (FH G) l.data.toList v (by omega) (by unfold maxLen at Z; omega) (fun j x I => by
    rw [dD, fi W r (0 + j) b e (0, 0) G, dX]
    have T := (bH.1 I).1
    have z : (b.toList.take ((my l).length * 1))[j]? = some (.int .u8 x.toNat) := by
     rw [q4, ← DX]
     simp only [Go.Lib.strCells, eC, I]
     rfl
    rw [dA (by omega)] at z
    simpa using z)
   rw [← u] at J
   refine .inl ⟨_, _, m _ _ J, ?_⟩
   have M : (⟨l.data.toList.toArray⟩ : ByteArray) = l := fR (by simp)
   rw [M]
   exact h _ (NH i)
end
def BH (P : Program) (μ : kk) : Prop := ∃ g T fr, P.globalNamed "internal/strconv.uint64pow10" = some g ∧ μ g = some (.cells (Go.Lib.pow10Tab.map fun z => Value.int .u64 z).toArray T fr)
theorem BH.mono {P : Program} {μ μ' : kk} (h : BH P μ) (d : kf μ μ') : BH P μ' := by
 obtain ⟨g, T, fr, h1, b⟩ := h
 exact ⟨g, T, fr, h1, d _ _ b⟩
end Go.Proofs.YtjjjihkifgdhgaaGreatDoor
namespace Go.Proofs.YtjjjihkifgdhgaaGreatDoor
open Go.IntKind renaming wrap → wi0
open Go.Sort Go.Proofs Go.Shelf
theorem FX {g b : Nat} {o : Obj} : keys [(g, o)] b ↔ b = g := by
 constructor
 ·rintro ⟨d, h⟩
  simp at h
  exact h.1
 ·rintro rfl; exact ⟨o, by simp⟩
theorem BO (w : World) (g m : Nat) (f : Array Value → Array Value) (os : Array Obj) (b : Nat) (h : b < w.heap.size) :
  (Go.Sort.grow (mapBlock (Go.Sort.ahead w m) g f) os).heap[b]? = if g = b then w.heap[b]?.map (onCells f) else w.heap[b]? := by
 have d : b < (mapBlock (Go.Sort.ahead w m) g f).heap.size := by simp only [mapBlock, Go.Sort.ahead, Array.size_modify]; exact h
 rw [heap_grow_old _ _ d]
 simp only [mapBlock, Go.Sort.ahead, dS]
theorem Kj {w : World} {g m : Nat} {f : Array Value → Array Value} {os : Array Obj} {cs : Array Value} {T : TypeId} {fr : Nat × Nat} (i : w.heap[g]? = some (.cells cs T fr)) :
  tF true [(g, .cells cs T fr)] [(g, .cells (f cs) T fr)] w (Go.Sort.grow (mapBlock (Go.Sort.ahead w m) g f) os) := by
 have d : g < w.heap.size := (dF.1 i).1
 refine ⟨⟨rfl, rfl, rfl, ?_, ?_, fun b j l => ?_⟩, fun b o h => ?_, by simp⟩
 ·refine sO.of ?_
  show w.drawn ≤ w.drawn + m
  omega
 ·show w.heap.size ≤ (w.heap.modify g (onCells f) ++ os).size
  simp
 ·rw [BO _ _ _ _ _ _ j, bo fun h => l (FX.2 h.symm)]
 ·simp only [aQ, cW, eX, Prod.mk.injEq] at h
  obtain ⟨rfl, rfl⟩ := h
  refine ⟨?_, .inr (FX.2 rfl)⟩
  rw [BO _ _ _ _ _ _ d, bB rfl, i]
  rfl
theorem LN {w W : World} (h : Ex true w W) : ∃ q os, W = Go.Sort.grow (w.drewN q) os := by
 refine ⟨W.drawn - w.drawn, W.heap.extract w.heap.size W.heap.size, ?_⟩
 have j : W.heap = w.heap ++ W.heap.extract w.heap.size W.heap.size := by
  apply Array.ext_getElem?
  intro i
  rw [Array.getElem?_append]
  split
  ·rename_i l; exact h.lZ i l
  ·rename_i l
   rw [Array.getElem?_extract]
   have n := h.size
   split
   ·rw [show w.heap.size + (i - w.heap.size) = i by omega]
   ·exact Array.getElem?_eq_none (by omega)
 obtain ⟨h1, p, r, s, t⟩ := W
 have b := h.os; have d := h.tape; have g := h.output; have m := h.drawn rfl
 simp only at b d g m j
 unfold Go.Sort.grow World.drewN
 simp only [World.mk.injEq]
 exact ⟨j, d, by omega, b, g⟩
theorem KT {α : Type} [Inhabited α] {enc : α → List Value} {k : Nat} (hk : ∀ x, (enc x).length = k) (l : List α) (j : Nat) (b : j < l.length * k) :
  (l.map enc).flatten[j]? = some ((flatK enc k l.toArray)[j]!) := by
 have h : 0 < k := by
  cases k with
  | zero => simp at b
  | succ n => omega
 have h1 : j / k < l.length := (Nat.div_lt_iff_lt_mul h).2 b
 rw [get_flatK _ _ _ _ (by simpa using b)]
 have i : l.toArray[j / k]! = l[j / k] := by
  rw [getElem!_pos l.toArray (j / k) (by simpa using h1)]; simp
 rw [i]
 have d : j % k < (enc l[j / k]).length := by rw [hk]; exact Nat.mod_lt _ h
 have g := xQ hk l (j / k) l[j / k] (dP h1) (j % k) ((enc l[j / k])[j % k]) (dP d)
 rw [Nat.div_add_mod' j k] at g
 rw [g, getElem!_pos (enc l[j / k]) (j % k) d]
theorem It {α : Type} [Inhabited α] {enc : α → List Value} {k : Nat} (hk : ∀ x, (enc x).length = k) {w : World} {g : Nat} {cs : Array Value} {T : TypeId} (d : w.heap[g]? = some (.cells cs T (0, 0))) (l : List α)
  (i : cs.toList.take (l.length * k) = (l.map enc).flatten) : HoldsK enc k w g 0 l.toArray := by
 intro j h
 have b : j < l.length * k := by simpa using h
 have h1 := KT hk l j b
 rw [← i, fj, bB b] at h1
 refine ⟨?_, ?_⟩
 ·simp only [World.cell?, d, dX]
  simpa using h1
 ·simp [World.frozen?, d]
theorem Kv {α : Type} [Inhabited α] {enc : α → List Value} {k : Nat} (hk : ∀ x, (enc x).length = k) {cs : Array Value} (l : List α) (d : l.length * k ≤ cs.size) :
  (putCells id 0 (flatK enc k l.toArray) cs).toList.take (l.length * k) = (l.map enc).flatten := by
 apply eB
 intro j
 rw [fj]
 split
 ·rename_i b
  rw [KT hk l j b]
  simp only [putCells, dT, Array.getElem?_mapIdx, size_flatK, dH]
  rw [Array.getElem?_eq_getElem (by omega)]
  simp [b]
 ·rename_i b
  rw [fA (by rw [pB hk]; omega)]
theorem IE (enc : Value → Value) (o : Nat) (d c : Array Value) : (putCells enc o d c).size = c.size := by simp [putCells]
section
variable {α : Type} {P : Program} {ρ : Ren}
theorem Ru {l : List α} {cf : α × α → Option Int} (h : Ea cf l) : SWO (ltOf fun (x y : {x // x ∈ l}) => (cf (x.1, y.1)).getD 0) ∧
  (∀ x y : {x // x ∈ l}, ltOf (fun (x y : {x // x ∈ l}) => (cf (x.1, y.1)).getD 0) x y = tP cf x.1 y.1) := by
 have e : ∀ x y : {x // x ∈ l}, ltOf (fun (x y : {x // x ∈ l}) => (cf (x.1, y.1)).getD 0) x y = tP cf x.1 y.1 := fun x y => by
  obtain ⟨c, i⟩ := h.is x.1 x.2 y.1 y.2
  simp [ltOf, tP, i]
 refine ⟨⟨fun x => ?_, fun x y z => ?_, fun x y z => ?_⟩, e⟩
 ·rw [e]; exact h.irrefl _ x.2
 ·rw [e, e, e]; exact h.trans _ x.2 _ y.2 _ z.2
 ·rw [e, e, e]
  intro h1 d
  cases b : tP cf x.1 z.1 with
  | false => rfl
  | true =>
   cases g : tP cf y.1 x.1 with
   | true =>
    have := h.trans _ y.2 _ x.2 _ z.2 g b
    rw [d] at this; cases this
   | false =>
    have := h.total _ x.2 _ y.2 h1 g
    rw [this, d] at b; cases b
theorem KD (L : SlLaysF0.n6 P ρ) (k : Nat) (aE : ∀ w, (isAgg (ρ.t 24)).run P w = .ok true w) (zE : ∀ w, (Go.sizeOf (ρ.t 24)).run P w = .ok k w) {e : TypeId} (enc : α → List Value) (hk : ∀ x, (enc x).length = k) (h1 : ∀ x, ∀ u ∈ enc x, u.oneCell' = true) {v fv : Value} {l r : List α} {R : List (Nat × Obj)} {cf : α × α → Option Int} {w : World} {μ0 : kk} (hH : Er (R ++ []) w) (E : kf μ0 (uc w (R ++ []))) (Z : jX e enc k v l R) (hc : JJ P fv μ0 (fun (x : α × α) => [(.agg (enc x.1).toArray), (.agg (enc x.2).toArray)]) (fun (r : Int) => (.int .i64 r)) cf) (hm : zt cf l = some r) :
  lH true P (ρ.f 6) [v, fv] w (R ++ []) (fun u L1 _ => ∃ (S : List (Nat × Obj)), u = (.tuple #[]) ∧ L1 = (S ++ []) ∧ jX e enc k v r S) := by
 obtain ⟨ok, rfl⟩ := G2 hm
 rw [bA] at hH E ⊢
 rcases ef l.length with h0 | j
 ·have hl : l = [] := aV h0
  subst hl
  have hs : sY cf ([] : List α) = [] := by simp [sY]
  rw [hs]
  obtain ⟨p, c, rfl⟩ : ∃ p c, v = .slice p 0 c := by
   rcases Z with ⟨rfl, _, _⟩ | ⟨g, cap, q, rfl, _⟩
   ·exact ⟨_, _, rfl⟩
   ·exact ⟨_, _, rfl⟩
  refine dr (AnyF.slices_SortFunc_none L p c fv w) fun x w' ⟨hx, hw⟩ => ?_
  subst hx hw
  refine ⟨_, R, rfl, ⟨⟨rfl, rfl, rfl, sO.of (aW _), aW _, fun _ _ _ => rfl⟩, fun b o h => ⟨hH b o h, .inr ⟨o, h⟩⟩, ?_⟩, R, rfl, (bA R).symm, Z⟩
  rcases Z with ⟨_, _, rfl⟩ | ⟨g, cap, q, _, rfl, _⟩ <;> simp
 ·rcases Z with ⟨_, rfl, _⟩ | ⟨g, cap, q, rfl, rfl, a8, a7, O, ae⟩
  ·simp at j
  have hg : w.heap[g]? = some (.cells q e (0, 0)) := hH g _ (by simp)
  have aa : g < w.heap.size := (dF.1 hg).1
  haveI : Inhabited {x // x ∈ l} := ⟨⟨l[0], List.getElem_mem j⟩⟩
  obtain ⟨gg, d, rfl, Q, z⟩ := hc
  obtain ⟨hO, T⟩ := Ru ok
  have G : l.attach.toArray.size = l.length := by simp
  have ab : l.attach.map (fun x => enc x.1) = l.map enc := by
   rw [show (fun x : {x // x ∈ l} => enc x.1) = enc ∘ Subtype.val from rfl, ← eG, List.attach_map_subtype_val]
  have a1 : HoldsK (fun x : {x // x ∈ l} => enc x.1) k w g 0 l.attach.toArray := It (fun x => hk x.1) hg l.attach (by rw [ab, List.length_attach, ae])
  have M : CmpLays P gg d (fun x : {x // x ∈ l} => enc x.1) k (fun x y => (cf (x.1, y.1)).getD 0) g 0 l.attach.toArray.size w := by
   intro m os dk ag x y
   obtain ⟨c, J⟩ := ok.is x.1 x.2 y.1 y.2
   have Y : kf μ0 (hp (sortWorldK (fun x : {x // x ∈ l} => enc x.1) k w g 0 m dk os)) := fun b o hb => by
    have A := E b o hb
    unfold uc at A
    split at A
    ·cases A
    ·rename_i hn
     have a6 : b < w.heap.size := (dF.1 A).1
     show (Go.Sort.grow (mapBlock (Go.Sort.ahead w m) g _) os).heap[b]? = _
     rw [BO _ _ _ _ _ _ a6, bo fun h => hn (FX.2 h.symm)]
     exact A
   have h3 := z (sortWorldK (fun x : {x // x ∈ l} => enc x.1) k w g 0 m dk os) (x.1, y.1) c Y J
   have ea : ([Value.agg (enc x.1).toArray, Value.agg (enc y.1).toArray] ++ d.toList).toArray = #[Value.agg (enc x.1).toArray, Value.agg (enc y.1).toArray] ++ d := by
    apply Array.ext'; simp
   rw [← ea]
   exact dr h3 fun u W' hu => ⟨by rw [hu.1]; show _ = Ending.returned (.int .i64 ((cf (x.1, y.1)).getD 0)); rw [J]; rfl, LN hu.2⟩
  have hT : ∀ x y : {x // x ∈ l}, ltOf (fun (x y : {x // x ∈ l}) => (cf (x.1, y.1)).getD 0) x y = false → ltOf (fun (x y : {x // x ∈ l}) => (cf (x.1, y.1)).getD 0) y x = false → x = y := fun x y a b => by
   rw [T] at a b
   exact Subtype.ext (ok.total _ x.2 _ y.2 a b)
  have i := AnyQ.slices_SortFunc_total L k aE zE (fun x : {x // x ∈ l} => enc x.1) (fun x => hk x.1) (fun x => h1 x.1) (fun x y => (cf (x.1, y.1)).getD 0) hO gg d g 0 cap l.attach.toArray w Q M a1 aa (by rw [G]; exact ok.short) hT
  rw [G] at i
  refine dr i fun u w' ⟨hu, n, os, hw⟩ => ?_
  subst hu
  generalize hs : l.attach.toArray.toList.mergeSort (fun x y => !ltOf (fun (x y : {x // x ∈ l}) => (cf (x.1, y.1)).getD 0) y x) = s at hw
  have ad : s.map Subtype.val = sY cf l := by
   rw [← hs, ie (s := fun x y => !tP cf y x) (fun a _ b _ => by rw [T])]
   simp [sY]
  have W : s.length = l.length := by rw [← hs, List.length_mergeSort]; simp
  have U : (sY cf l).length = l.length := by simp [sY, List.length_mergeSort]
  have I := Kj (w := w) (m := n) (f := putCells id 0 (flatK (fun x : {x // x ∈ l} => enc x.1) k s.toArray)) (os := os) hg
  have af : w' = Go.Sort.grow (mapBlock (Go.Sort.ahead w n) g (putCells id 0 (flatK (fun x : {x // x ∈ l} => enc x.1) k s.toArray))) os := hw
  rw [← af] at I
  refine ⟨_, _, rfl, I, _, rfl, (bA _).symm, .inr ⟨g, cap, _, by rw [U], rfl, by omega, a7, by rw [IE, O], ?_⟩⟩
  rw [U, ← W, Kv (fun x => hk x.1) s (by rw [W, O]; exact cQ k a8), ← ad, eG]
  rfl
end
theorem Ek (b : ByteArray) : b.toList = b.data.toList := by rw [fa]
theorem QG (l : List ByteArray) : (l.map sH).flatten = l.map Value.string := by
 induction l with
 | nil => rfl
 | cons x l ih => simp only [bJ, bO, ih]; rfl
theorem N4 (l : List ByteArray) : (uG l).map (fun b => b.data.toList) = (l.map (fun b => b.data.toList)).mergeSort (fun x y => decide (x ≤ y)) := by
 unfold uG
 refine ie fun a _ b _ => ?_
 unfold pH
 rw [bytesLess_eq, Ek, Ek]
 by_cases h : a.data.toList ≤ b.data.toList
 ·have d : ¬ b.data.toList < a.data.toList := List.not_lt.2 h
  simp [h, d]
 ·have d : b.data.toList < a.data.toList := by
   cases Decidable.em (b.data.toList < a.data.toList) with
   | inl g => exact g
   | inr g => exact absurd (List.not_lt.1 g) h
  simp [h, d]
end Go.Proofs.YtjjjihkifgdhgaaGreatDoor
namespace Go.Proofs.YtjjjihkifgdhgaaGreatDoor
open Go.IntKind renaming wrap → wi0
open Go.WideElems Go.WideShapes Go.Sort Go.Proofs Go.Shelf
theorem Kn {β : Type} {vf : β → Value} {P : Program} {kt : TypeId} (E : P.underlying kt = some .string) {l : List (ByteArray × β)} {es : Array MapEntry} {clock : Nat} (h : ur Value.string vf l es clock) (z : (l.map (·.1)).Nodup) (A : ∀ p ∈ l, p.1.size ≤ maxLen) (y : l.length ≤ maxLen) {W : World} {b : Nat} (w : W.heap[b]? = some (.map es clock)) : ∃ D : DataW Unit, W.ownsMap P kt (fun _ => some (.lit (.bool true), [])) b es.size D ∧ (strKeys D).Perm (l.map (fun p => p.1.data.toList)) ∧ Maps.size D = l.length := by
 have d := h.keys
 have q : ∀ x ∈ es.toList, ∃ s : ByteArray, x.key = .string s ∧ s.size ≤ maxLen := fun x j => by
  have h1 : x.key ∈ es.toList.map (·.key) := bM.2 ⟨x, j, rfl⟩
  rw [d] at h1
  obtain ⟨s, i, m⟩ := bM.1 h1
  obtain ⟨p, t, u⟩ := bM.1 i
  exact ⟨s, m.symm, by rw [← u]; exact A p t⟩
 have g : ∀ x ∈ es.toList, ∃ s : ByteArray, x.key = .string s ∧ Go.WideElems.rd (H := Unit) P kt (fun _ => some (.lit (.bool true), [])) x = some (.string s.data.toList, .lit (.bool true)) := fun x j => by
  obtain ⟨s, h1, i⟩ := q x j
  refine ⟨s, h1, ?_⟩
  simp [Go.WideElems.rd, keyOf, E, mapKey, h1, i]
 refine ⟨_, ⟨es, clock, w, ⟨by rw [h.length]; exact y, ⟨h.lt, ?_, ?_⟩, fun x j => ?_⟩, aW _, rfl⟩, ?_, ?_⟩
 ·have := h.born
  rw [List.Nodup, fC]
  exact this.imp (fun {a b} h => by omega)
 ·rw [d]
  rw [List.Nodup, fC]
  exact z.imp (fun {a b} n e => n (by injection e))
 ·obtain ⟨s, _, i⟩ := g x j
  exact ⟨_, i⟩
 ·have h1 := (sorted_perm (es.toList.map (Go.WideElems.rg (H := Unit) P kt (fun _ => some (.lit (.bool true), []))))).map (fun p => strOf p.1)
  refine List.Perm.trans h1 ?_
  have e : (es.toList.map (Go.WideElems.rg (H := Unit) P kt (fun _ => some (.lit (.bool true), [])))).map (fun p => strOf p.1) = l.map (fun p => p.1.data.toList) := by
   have r : (es.toList.map (Go.WideElems.rg (H := Unit) P kt (fun _ => some (.lit (.bool true), [])))).map (fun p => strOf p.1) = (es.toList.map (·.key)).map (fun v => match v with | .string s => s.data.toList | _ => []) := by
    rw [eG, eG]
    refine List.map_congr_left fun x j => ?_
    obtain ⟨s, i, m⟩ := g x j
    simp [Go.WideElems.rg, m, i, strOf]
   rw [r, d, eG, eG]
   rfl
  rw [e]
 ·have h1 := (sorted_perm (es.toList.map (Go.WideElems.rg (H := Unit) P kt (fun _ => some (.lit (.bool true), []))))).length_eq
  show (List.foldr DataW.insert [] _).length = _
  rw [h1, dq, ← h.length]
  simp
theorem Ix {l : List ByteArray} {g : List (List UInt8)} (h : g.Perm (l.map fun b => b.data.toList)) : g.mergeSort (fun x y => decide (x ≤ y)) = (uG l).map (fun b => b.data.toList) := by
 rw [N4]
 have le : ∀ a b c : List UInt8, decide (a ≤ b) = true → decide (b ≤ c) = true → decide (a ≤ c) = true := fun a b c h1 d => by
  simp only [bK] at *
  exact List.le_trans h1 d
 have tot : ∀ a b : List UInt8, (decide (a ≤ b) || decide (b ≤ a)) = true := fun a b => by
  simp only [fq, bK]
  exact List.le_total a b
 refine List.Perm.eq_of_pairwise (le := fun a b => decide (a ≤ b) = true) (fun a b _ _ h1 d => List.le_antisymm (by simpa using h1) (by simpa using d)) (gh le tot _) (gh le tot _) ?_
 exact (gP _ _).trans (h.trans (gP _ _).symm)
section
variable {P : Program} {ρk ρt ρm : Ren}
theorem Ki (LK : SlLaysZ.n7 P ρk) (LT : SlLaysZ.n6 P ρt) (LM : SlLaysM.n6 P ρm) (h9 : ρt.f 9 = ρm.f 6) (hK : P.underlying (ρk.t 26) = some .string) (eg : ∀ args w, (callFunc (ρk.f 10) args).run P w = .ok (.enter (ρk.f 10) args) w) (es : ∀ args w, (callFunc (ρt.f 9) args).run P w = .ok (.enter (ρt.f 9) args) w) {β : Type} {vf : β → Value} {l : List (ByteArray × β)} {b : Nat} {mv : Value} {t : TypeId} {W : World} {r : List ByteArray} (E : W.heap[b]? = some (.cells #[mv] t (0, 0))) (hm : vR Value.string vf (hp W) mv l) (hk : Gc l = some r) :
  kY false P (ρt.f 6) [.func (.func (ρk.f 10)) #[] #[.pointer (some ⟨b, 0, none⟩)]] W (ρt.t 26) sH 1 r := by
 unfold Gc at hk
 split at hk
 case isFalse => cases hk
 rename_i hc
 obtain ⟨Z, a1, a6⟩ := hc
 cases hk
 have n : b < W.heap.size := (dF.1 E).1
 have i : W.cell? ⟨b, 0, none⟩ = some mv := by simp [World.cell?, E]
 have z : AnyZ.SortsIn P ρt Fence.wide 4 :=
  ⟨fun R off cap j W hH hblk A => iX.2 (by rw [h9]; exact AnyM.slices_Sort_string LM R off cap j W hH hblk A), fun p cap W => iX.2 (by rw [h9]; exact AnyM.slices_Sort_string_none LM p cap W)⟩
 have O : SeqGives Fence.wide 2 P (ρk.f 10) #[.pointer (some ⟨b, 0, none⟩)] encStr (fun j => j.Perm ((l.map (·.1)).map fun b => b.data.toList)) l.length W := by
  rcases hm with ⟨rfl, rfl⟩ | ⟨m, es, clock, rfl, aa, I⟩
  ·have := AnyZ.keys_gives_nil (ρ := ρk) { LK with } Fence.wide 2 trivial rfl b W n i
   intro l' J W' U T Y Q
   refine CallsIn.mono (this l' J W' U T Y Q) ?_
   rintro e w' ⟨hv, j, rfl, hj⟩
   exact ⟨hv, [], bW _, hj⟩
  ·obtain ⟨D, L, u, A⟩ := Kn hK I Z a1 (by unfold maxLen; omega) aa
   have := AnyZ.keys_gives (ρ := ρk) { LK with } Fence.wide 2 trivial rfl (by omega) b m es.size D W n i L
   intro l' J W' U T Y Q
   refine CallsIn.mono (this l' J W' U T (by rw [A]; exact Y) Q) ?_
   rintro e w' ⟨hv, j, hp, hj⟩
   refine ⟨hv, j, ?_, hj⟩
   rw [eG]
   exact hp.trans u
 have cS := AnyZ.sorted_in LT Fence.wide 5 trivial trivial trivial trivial rfl (by omega) z es (ρk.f 10) #[.pointer (some ⟨b, 0, none⟩)] trivial eg _ l.length (by unfold maxLen; omega) a6 W O
 refine dr (iX.1 cS) ?_
 rintro e w' ⟨v, j, rfl, hS, M, ad, d⟩
 have hs := Ix hS
 have hlen : j.length = (uG (l.map (·.1))).length := by
  have := bD List.length hs
  simpa using this
 have s : (j.mergeSort (fun x y => decide (x ≤ y))).map encStr = ((uG (l.map (·.1))).map sH).flatten := by
  rw [hs, QG, eG]
  refine List.map_congr_left (fun x _ => ?_)
  simp only [Function.comp, encStr]
 rcases M.2 with ⟨rfl, Q⟩ | ⟨g, cap, G, rfl, q, hg, ae, a7, a8, ab⟩
 ·have : uG (l.map (·.1)) = [] := aV (by omega)
  rw [this]
  exact ⟨_, [], rfl, tF.IH ⟨d.os, d.tape, d.output, fun h => (by cases h), d.size, fun b E => d.block b E⟩ (fun _ _ h => by cases h) (by simp), jX.nil _ _ _⟩
 ·refine ⟨_, [(g, .cells G (ρt.t 26) (0, 0))], rfl, tF.IH ⟨d.os, d.tape, d.output, fun h => (by cases h), d.size, fun b E => d.block b E⟩ (fun b o h => by simp at h; obtain ⟨rfl, rfl⟩ := h; exact ⟨hg, q⟩) (by simp), .inr ⟨g, cap, G, by rw [hlen], rfl, by omega, a7, a8, ?_⟩⟩
  rw [← hlen, ab, s]
end
end Go.Proofs.YtjjjihkifgdhgaaGreatDoor
namespace Go.Proofs.YtjjjihkifgdhgaaGreatDoor
open Go.IntKind renaming wrap → wi0
open Go.RowKit
theorem MG {P : Program} {ρ : Go.Shelf.Ren} (L : Go.Proofs.LaysM.n171 P ρ) {f : FuncId} (m : ρ.f 171 = f) {n : Int} {r : ByteArray} {w : World} (p : BH P (hp w)) (hm : zr n = some r) : jT true P f [.int .i64 n] w (.string r) := by
 unfold zr at hm
 split at hm
 case isFalse => cases hm
 rename_i h
 cases hm
 subst m
 obtain ⟨g, T, fr, h1, i⟩ := p
 have d : Go.Lib.TabIs P w "internal/strconv.uint64pow10" .u64 Go.Lib.pow10Tab := by
  unfold Go.Lib.TabIs World.var?
  have j : w.heap[g]? = _ := i
  rw [h1]
  simp [j]
 refine dr (Go.Proofs.Any.strconv_Itoa L n h.1 h.2 w d) fun e W q => ?_
 obtain ⟨rfl, k, os, rfl⟩ := q
 refine ⟨rfl, rfl, rfl, rfl, sO.of ?_, ?_, fun b l => ?_⟩
 ·simp [Go.Sort.grow, World.drewN]
 ·simp [Go.Sort.grow, World.drewN]
 ·simp only [Go.Sort.grow, World.drewN]
  rw [Array.getElem?_append_left l]
end Go.Proofs.YtjjjihkifgdhgaaGreatDoor
namespace Go.Proofs.YtjjjihkifgdhgaaGreatDoor
open Go.IntKind renaming wrap → wi0
def fe := @Tryz.underlying9
def ft := @Tryz.zeroValue9
def fJ := @Tryz.underlying0
def fX := @Tryz.zeroValue0
def gr := @Tryz.sizeOf9
def gD := @Tryz.underlying4
def gH := @Tryz.isAgg9
def gM := @Tryz.zeroValue4
def gT := @Tryz.sizeOf0
def ig := @Tryz.underlying271
def ij := @Tryz.underlying332
def iq := @Tryz.underlying272
def ir := @Tryz.underlying152
def iD := @Tryz.isAgg0
def iE := @Tryz.zeroValue271
def iF := @Tryz.zeroValue332
def iG := @Tryz.zeroValue272
def iH := @Tryz.zeroValue152
def iS := @Tryz.underlying3
def iT := @Tryz.underlying5
def iY := @Tryz.sizeOf4
def jf := @Tryz.zeroValue3
def jg := @Tryz.zeroValue5
def jk := @Tryz.isAgg4
def NK : Go.Shelf.Ren := ⟨fun | 6 => 198 | 15 => 260 | 14 => 259 | 28 => 319 | 29 => 307 | 20 => 311 | 21 => 312 | 22 => 313 | 23 => 314 | 24 => 315 | 25 => 316 | 26 => 317 | 27 => 318 | 46 => 356 | 47 => 357 | 48 => 358 | 49 => 359 | 50 => 360 | 57 => 377 | n => n, fun | 22 => 45 | 24 => 52 | 25 => 138 | 3 => 3 | 39 => 271 | 0 => 0 | 53 => 332 | 55 => 272 | 4 => 4 | 46 => 336 | 45 => 335 | 50 => 340 | 5 => 5 | 9 => 9 | 66 => 371 | 70 => 375 | 76 => 392 | 77 => 248 | n => n, fun | n => n⟩
theorem RX : Go.Proofs.SlLaysF0.n6 Tryz.prog NK := {
 mixed := by kernel_rfl,
 f6 := ⟨Tryz.f198.name, by decide, Tryz.func198.trans (bD some (by kernel_rfl))⟩,
 f14 := ⟨Tryz.f259.name, by decide, Tryz.func259.trans (bD some (by kernel_rfl))⟩,
 f15 := Tryz.func260.trans (bD some (by kernel_rfl)),
 f20 := ⟨Tryz.f311.name, by decide, Tryz.func311.trans (bD some (by kernel_rfl))⟩,
 f21 := ⟨Tryz.f312.name, by decide, Tryz.func312.trans (bD some (by kernel_rfl))⟩,
 f22 := ⟨Tryz.f313.name, by decide, Tryz.func313.trans (bD some (by kernel_rfl))⟩,
 f23 := ⟨Tryz.f314.name, by decide, Tryz.func314.trans (bD some (by kernel_rfl))⟩,
 f24 := ⟨Tryz.f315.name, by decide, Tryz.func315.trans (bD some (by kernel_rfl))⟩,
 f25 := ⟨Tryz.f316.name, by decide, Tryz.func316.trans (bD some (by kernel_rfl))⟩,
 f26 := ⟨Tryz.f317.name, by decide, Tryz.func317.trans (bD some (by kernel_rfl))⟩,
 f27 := ⟨Tryz.f318.name, by decide, Tryz.func318.trans (bD some (by kernel_rfl))⟩,
 f28 := Tryz.func319.trans (bD some (by kernel_rfl)),
 f29 := Tryz.func307.trans (bD some (by kernel_rfl)),
 f46 := ⟨Tryz.f356.name, by decide, Tryz.func356.trans (bD some (by kernel_rfl))⟩,
 f47 := Tryz.func357.trans (bD some (by kernel_rfl)),
 f48 := Tryz.func358.trans (bD some (by kernel_rfl)),
 f49 := ⟨Tryz.f359.name, by decide, Tryz.func359.trans (bD some (by kernel_rfl))⟩,
 f50 := ⟨Tryz.f360.name, by decide, Tryz.func360.trans (bD some (by kernel_rfl))⟩,
 f57 := ⟨Tryz.f377.name, by decide, Tryz.func377.trans (bD some (by kernel_rfl))⟩,
 t0 := fJ,
 a0 := iD,
 z0 := gT,
 v0 := fX,
 t3 := iS,
 a3 := Tryz.isAgg3,
 z3 := Tryz.sizeOf3,
 v3 := jf,
 t4 := gD,
 a4 := jk,
 z4 := iY,
 v4 := gM,
 t5 := iT,
 a5 := Tryz.isAgg5,
 z5 := Tryz.sizeOf5,
 v5 := jg,
 t9 := fe,
 a9 := gH,
 z9 := gr,
 v9 := ft,
 t22 := Tryz.underlying45,
 a22 := Tryz.isAgg45,
 z22 := Tryz.sizeOf45,
 v22 := Tryz.zeroValue45,
 t25 := Tryz.underlying138,
 a25 := Tryz.isAgg138,
 z25 := Tryz.sizeOf138,
 v25 := Tryz.zeroValue138,
 t39 := ig,
 a39 := Tryz.isAgg271,
 z39 := Tryz.sizeOf271,
 v39 := iE,
 t45 := Tryz.underlying335,
 a45 := Tryz.isAgg335,
 z45 := Tryz.sizeOf335,
 v45 := Tryz.zeroValue335,
 t46 := Tryz.underlying336,
 a46 := Tryz.isAgg336,
 z46 := Tryz.sizeOf336,
 v46 := Tryz.zeroValue336,
 t50 := Tryz.underlying340,
 a50 := Tryz.isAgg340,
 z50 := Tryz.sizeOf340,
 v50 := Tryz.zeroValue340,
 t53 := ij,
 a53 := Tryz.isAgg332,
 z53 := Tryz.sizeOf332,
 v53 := iF,
 t55 := iq,
 a55 := Tryz.isAgg272,
 z55 := Tryz.sizeOf272,
 v55 := iG,
 t66 := Tryz.underlying371,
 a66 := Tryz.isAgg371,
 z66 := Tryz.sizeOf371,
 v66 := Tryz.zeroValue371,
 t70 := Tryz.underlying375,
 a70 := Tryz.isAgg375,
 z70 := Tryz.sizeOf375,
 v70 := Tryz.zeroValue375,
 t76 := Tryz.underlying392,
 a76 := Tryz.isAgg392,
 z76 := Tryz.sizeOf392,
 v76 := Tryz.zeroValue392,
 t77 := Tryz.underlying248,
 a77 := Tryz.isAgg248,
 z77 := Tryz.sizeOf248,
 v77 := Tryz.zeroValue248}
def QL : Go.Shelf.Ren := ⟨fun | 6 => 379 | 8 => 260 | 9 => 387 | 19 => 319 | 20 => 307 | 21 => 391 | 22 => 392 | 23 => 393 | 24 => 394 | 25 => 395 | 26 => 396 | 27 => 397 | 28 => 398 | 29 => 399 | 36 => 401 | 31 => 357 | 32 => 358 | 37 => 402 | 38 => 403 | 39 => 404 | 41 => 405 | n => n, fun | 27 => 152 | 29 => 9 | 3 => 3 | 32 => 271 | 26 => 152 | 0 => 0 | 44 => 332 | 46 => 272 | 4 => 4 | 36 => 336 | 35 => 335 | 41 => 340 | 5 => 5 | 9 => 9 | 53 => 371 | 57 => 375 | 63 => 392 | 64 => 248 | n => n, fun | n => n⟩
theorem QV : Go.Proofs.SlLaysM.n6 Tryz.prog QL := {
 mixed := by kernel_rfl,
 f6 := ⟨Tryz.f379.name, by decide, Tryz.func379.trans (bD some (by kernel_rfl))⟩,
 f8 := Tryz.func260.trans (bD some (by kernel_rfl)),
 f9 := ⟨Tryz.f387.name, by decide, Tryz.func387.trans (bD some (by kernel_rfl))⟩,
 f19 := Tryz.func319.trans (bD some (by kernel_rfl)),
 f20 := Tryz.func307.trans (bD some (by kernel_rfl)),
 f21 := ⟨Tryz.f391.name, by decide, Tryz.func391.trans (bD some (by kernel_rfl))⟩,
 f22 := ⟨Tryz.f392.name, by decide, Tryz.func392.trans (bD some (by kernel_rfl))⟩,
 f23 := ⟨Tryz.f393.name, by decide, Tryz.func393.trans (bD some (by kernel_rfl))⟩,
 f24 := ⟨Tryz.f394.name, by decide, Tryz.func394.trans (bD some (by kernel_rfl))⟩,
 f25 := ⟨Tryz.f395.name, by decide, Tryz.func395.trans (bD some (by kernel_rfl))⟩,
 f26 := ⟨Tryz.f396.name, by decide, Tryz.func396.trans (bD some (by kernel_rfl))⟩,
 f27 := ⟨Tryz.f397.name, by decide, Tryz.func397.trans (bD some (by kernel_rfl))⟩,
 f28 := ⟨Tryz.f398.name, by decide, Tryz.func398.trans (bD some (by kernel_rfl))⟩,
 f29 := ⟨Tryz.f399.name, by decide, Tryz.func399.trans (bD some (by kernel_rfl))⟩,
 f31 := Tryz.func357.trans (bD some (by kernel_rfl)),
 f32 := Tryz.func358.trans (bD some (by kernel_rfl)),
 f36 := ⟨Tryz.f401.name, by decide, Tryz.func401.trans (bD some (by kernel_rfl))⟩,
 f37 := ⟨Tryz.f402.name, by decide, Tryz.func402.trans (bD some (by kernel_rfl))⟩,
 f38 := ⟨Tryz.f403.name, by decide, Tryz.func403.trans (bD some (by kernel_rfl))⟩,
 f39 := ⟨Tryz.f404.name, by decide, Tryz.func404.trans (bD some (by kernel_rfl))⟩,
 f41 := ⟨Tryz.f405.name, by decide, Tryz.func405.trans (bD some (by kernel_rfl))⟩,
 t0 := fJ,
 a0 := iD,
 z0 := gT,
 v0 := fX,
 t3 := iS,
 a3 := Tryz.isAgg3,
 z3 := Tryz.sizeOf3,
 v3 := jf,
 t4 := gD,
 a4 := jk,
 z4 := iY,
 v4 := gM,
 t5 := iT,
 a5 := Tryz.isAgg5,
 z5 := Tryz.sizeOf5,
 v5 := jg,
 t9 := fe,
 a9 := gH,
 z9 := gr,
 v9 := ft,
 t26 := ir,
 a26 := Tryz.isAgg152,
 z26 := Tryz.sizeOf152,
 v26 := iH,
 t27 := ir,
 a27 := Tryz.isAgg152,
 z27 := Tryz.sizeOf152,
 v27 := iH,
 t29 := fe,
 a29 := gH,
 z29 := gr,
 v29 := ft,
 t32 := ig,
 a32 := Tryz.isAgg271,
 z32 := Tryz.sizeOf271,
 v32 := iE,
 t35 := Tryz.underlying335,
 a35 := Tryz.isAgg335,
 z35 := Tryz.sizeOf335,
 v35 := Tryz.zeroValue335,
 t36 := Tryz.underlying336,
 a36 := Tryz.isAgg336,
 z36 := Tryz.sizeOf336,
 v36 := Tryz.zeroValue336,
 t41 := Tryz.underlying340,
 a41 := Tryz.isAgg340,
 z41 := Tryz.sizeOf340,
 v41 := Tryz.zeroValue340,
 t44 := ij,
 a44 := Tryz.isAgg332,
 z44 := Tryz.sizeOf332,
 v44 := iF,
 t46 := iq,
 a46 := Tryz.isAgg272,
 z46 := Tryz.sizeOf272,
 v46 := iG,
 t53 := Tryz.underlying371,
 a53 := Tryz.isAgg371,
 z53 := Tryz.sizeOf371,
 v53 := Tryz.zeroValue371,
 t57 := Tryz.underlying375,
 a57 := Tryz.isAgg375,
 z57 := Tryz.sizeOf375,
 v57 := Tryz.zeroValue375,
 t63 := Tryz.underlying392,
 a63 := Tryz.isAgg392,
 z63 := Tryz.sizeOf392,
 v63 := Tryz.zeroValue392,
 t64 := Tryz.underlying248,
 a64 := Tryz.isAgg248,
 z64 := Tryz.sizeOf248,
 v64 := Tryz.zeroValue248}
def PZ : Go.Shelf.Ren := ⟨fun | 7 => 362 | 10 => 380 | n => n, fun | 23 => 247 | 26 => 9 | 3 => 4 | 28 => 379 | 0 => 0 | 27 => 378 | 33 => 148 | 4 => 4 | n => n, fun | n => n⟩
theorem Qt : Go.Proofs.SlLaysZ.n7 Tryz.prog PZ := {
 mixed := by kernel_rfl,
 f7 := ⟨Tryz.f362.name, by decide, Tryz.func362.trans (bD some (by kernel_rfl))⟩,
 f10 := ⟨Tryz.f380.name, by decide, Tryz.func380.trans (bD some (by kernel_rfl))⟩,
 t0 := fJ,
 a0 := iD,
 z0 := gT,
 v0 := fX,
 t4 := gD,
 a4 := jk,
 z4 := iY,
 v4 := gM,
 t23 := Tryz.underlying247,
 a23 := Tryz.isAgg247,
 z23 := Tryz.sizeOf247,
 v23 := Tryz.zeroValue247,
 t26 := fe,
 a26 := gH,
 z26 := gr,
 v26 := ft,
 t27 := Tryz.underlying378,
 a27 := Tryz.isAgg378,
 z27 := Tryz.sizeOf378,
 v27 := Tryz.zeroValue378,
 t28 := Tryz.underlying379,
 a28 := Tryz.isAgg379,
 z28 := Tryz.sizeOf379,
 v28 := Tryz.zeroValue379,
 t33 := Tryz.underlying148,
 a33 := Tryz.isAgg148,
 z33 := Tryz.sizeOf148,
 v33 := Tryz.zeroValue148}
def PE : Go.Shelf.Ren := ⟨fun | 6 => 361 | 8 => 378 | 9 => 379 | 11 => 386 | 13 => 260 | 12 => 387 | 23 => 319 | 24 => 307 | 14 => 391 | 15 => 392 | 16 => 393 | 17 => 394 | 18 => 395 | 19 => 396 | 20 => 397 | 21 => 398 | 22 => 399 | 25 => 401 | 26 => 357 | 27 => 358 | 28 => 402 | 29 => 403 | 30 => 404 | 31 => 405 | n => n, fun | 26 => 9 | 28 => 379 | 24 => 152 | 0 => 0 | 3 => 3 | 37 => 271 | 48 => 332 | 50 => 272 | 4 => 4 | 40 => 336 | 39 => 335 | 45 => 340 | 5 => 5 | 9 => 9 | 51 => 371 | 55 => 375 | 57 => 392 | 58 => 248 | 33 => 148 | n => n, fun | n => n⟩
theorem PF : Go.Proofs.SlLaysZ.n6 Tryz.prog PE := {
 mixed := by kernel_rfl,
 f6 := ⟨Tryz.f361.name, by decide, Tryz.func361.trans (bD some (by kernel_rfl))⟩,
 f8 := ⟨Tryz.f378.name, by decide, Tryz.func378.trans (bD some (by kernel_rfl))⟩,
 f11 := ⟨Tryz.f386.name, by decide, Tryz.func386.trans (bD some (by kernel_rfl))⟩,
 t0 := fJ,
 a0 := iD,
 z0 := gT,
 v0 := fX,
 t24 := ir,
 a24 := Tryz.isAgg152,
 z24 := Tryz.sizeOf152,
 v24 := iH,
 t26 := fe,
 a26 := gH,
 z26 := gr,
 v26 := ft,
 t28 := Tryz.underlying379,
 a28 := Tryz.isAgg379,
 z28 := Tryz.sizeOf379,
 v28 := Tryz.zeroValue379,
 i26 := by kernel_rfl}
def RJ : Go.Shelf.Ren := ⟨fun | 171 => 50 | 243 => 122 | 246 => 190 | 283 => 250 | 284 => 251 | 285 => 252 | 286 => 253 | 129 => 307 | 317 => 306 | 318 => 308 | 319 => 309 | 320 => 310 | 337 => 354 | 338 => 355 | n => n, fun | 3 => 3 | 9 => 9 | 2 => 2 | 4 => 4 | 171 => 291 | 0 => 0 | 53 => 272 | 37 => 53 | 5 => 5 | 173 => 294 | 212 => 331 | 51 => 332 | 20 => 20 | 213 => 333 | 46 => 271 | 232 => 390 | 233 => 391 | n => n, fun | 17 => 3 | 18 => 4 | 19 => 5 | n => n⟩
theorem QU : Go.Proofs.LaysM.n171 Tryz.prog RJ := {
 mixed := by kernel_rfl,
 f129 := Tryz.func307.trans (bD some (by kernel_rfl)),
 f171 := Tryz.func50.trans (bD some (by kernel_rfl)),
 f243 := Tryz.func122.trans (bD some (by kernel_rfl)),
 f246 := Tryz.func190.trans (bD some (by kernel_rfl)),
 f283 := Tryz.func250.trans (bD some (by kernel_rfl)),
 f284 := Tryz.func251.trans (bD some (by kernel_rfl)),
 f285 := Tryz.func252.trans (bD some (by kernel_rfl)),
 f286 := Tryz.func253.trans (bD some (by kernel_rfl)),
 f317 := Tryz.func306.trans (bD some (by kernel_rfl)),
 f318 := Tryz.func308.trans (bD some (by kernel_rfl)),
 f319 := Tryz.func309.trans (bD some (by kernel_rfl)),
 f320 := Tryz.func310.trans (bD some (by kernel_rfl)),
 f337 := Tryz.func354.trans (bD some (by kernel_rfl)),
 f338 := Tryz.func355.trans (bD some (by kernel_rfl)),
 t0 := fJ,
 a0 := iD,
 z0 := gT,
 v0 := fX,
 t2 := Tryz.underlying2,
 a2 := Tryz.isAgg2,
 z2 := Tryz.sizeOf2,
 v2 := Tryz.zeroValue2,
 t3 := iS,
 a3 := Tryz.isAgg3,
 z3 := Tryz.sizeOf3,
 v3 := jf,
 t4 := gD,
 a4 := jk,
 z4 := iY,
 v4 := gM,
 t5 := iT,
 a5 := Tryz.isAgg5,
 z5 := Tryz.sizeOf5,
 v5 := jg,
 t9 := fe,
 a9 := gH,
 z9 := gr,
 v9 := ft,
 t20 := Tryz.underlying20,
 a20 := Tryz.isAgg20,
 z20 := Tryz.sizeOf20,
 v20 := Tryz.zeroValue20,
 t37 := Tryz.underlying53,
 a37 := Tryz.isAgg53,
 z37 := Tryz.sizeOf53,
 v37 := Tryz.zeroValue53,
 t46 := ig,
 a46 := Tryz.isAgg271,
 z46 := Tryz.sizeOf271,
 v46 := iE,
 t51 := ij,
 a51 := Tryz.isAgg332,
 z51 := Tryz.sizeOf332,
 v51 := iF,
 t53 := iq,
 a53 := Tryz.isAgg272,
 z53 := Tryz.sizeOf272,
 v53 := iG,
 t171 := Tryz.underlying291,
 a171 := Tryz.isAgg291,
 z171 := Tryz.sizeOf291,
 v171 := Tryz.zeroValue291,
 t173 := Tryz.underlying294,
 a173 := Tryz.isAgg294,
 z173 := Tryz.sizeOf294,
 v173 := Tryz.zeroValue294,
 t212 := Tryz.underlying331,
 a212 := Tryz.isAgg331,
 z212 := Tryz.sizeOf331,
 v212 := Tryz.zeroValue331,
 t213 := Tryz.underlying333,
 a213 := Tryz.isAgg333,
 z213 := Tryz.sizeOf333,
 t232 := Tryz.underlying390,
 a232 := Tryz.isAgg390,
 z232 := Tryz.sizeOf390,
 v232 := Tryz.zeroValue390,
 t233 := Tryz.underlying391,
 a233 := Tryz.isAgg391,
 z233 := Tryz.sizeOf391,
 v233 := Tryz.zeroValue391,
 g17 := by kernel_rfl,
 g18 := by kernel_rfl,
 g19 := by kernel_rfl,
 i0 := by kernel_rfl,
 i2 := by kernel_rfl,
 i3 := by kernel_rfl,
 i4 := by kernel_rfl,
 i5 := by kernel_rfl,
 i9 := by kernel_rfl,
 i20 := by kernel_rfl,
 i37 := by kernel_rfl,
 i46 := by kernel_rfl,
 i51 := by kernel_rfl,
 i53 := by kernel_rfl,
 i171 := by kernel_rfl,
 i173 := by kernel_rfl,
 i212 := by kernel_rfl,
 i232 := by kernel_rfl,
 i233 := by kernel_rfl,
 m17 := by kernel_rfl,
 m18 := by kernel_rfl,
 m19 := by kernel_rfl}
end Go.Proofs.YtjjjihkifgdhgaaGreatDoor
namespace Go.Proofs.YtjjjihkifgdhgaaGreatDoor
open Go.IntKind renaming wrap → wi0
open Go.RowKit
set_option maxRecDepth 10000
noncomputable section
structure jq where
 js : ByteArray
 Word : ByteArray
def jA (x : jq) : List Value := [.string x.js, .string x.Word]
def jR (x y : jq) : Bool := (kP x.js y.js) && ((kP x.Word y.Word) && true)
theorem jS {x y : jq} : jR x y = true ↔ x = y := by
 cases x; cases y; simp [jR, lW]
theorem wJ (x : jq) : (jA x).length = 2 := rfl
theorem vB (x : jq) : ∀ u ∈ jA x, u.oneCell' = true := by
 intro u hu
 simp only [jA, aQ, cW, eX] at hu
 rcases hu with rfl | rfl <;> rfl
structure jr where
 Kind : Int
 Head : jq
 kz : ByteArray
 B : jq
 C : jq
 kK : ByteArray
def jw (x : jr) : List Value := [.int .i64 x.Kind, .string x.Head.js, .string x.Head.Word, .string x.kz, .string x.B.js, .string x.B.Word, .string x.C.js, .string x.C.Word, .string x.kK]
def lu (x y : jr) : Bool := (x.Kind == y.Kind) && ((jR x.Head y.Head) && ((kP x.kz y.kz) && ((jR x.B y.B) && ((jR x.C y.C) && ((kP x.kK y.kK) && true)))))
theorem rH {x y : jr} : lu x y = true ↔ x = y := by
 cases x; cases y; simp [lu, lW, jS]
theorem kC (x : jr) : (jw x).length = 9 := rfl
theorem nw (x : jr) : ∀ u ∈ jw x, u.oneCell' = true := by
 intro u hu
 simp only [jw, aQ, cW, eX] at hu
 rcases hu with rfl | rfl | rfl | rfl | rfl | rfl | rfl | rfl | rfl <;> rfl
structure jJ where
 jq : jq
 kz : ByteArray
def kq (x : jJ) : List Value := [.string x.jq.js, .string x.jq.Word, .string x.kz]
def Az (x y : jJ) : Bool := (jR x.jq y.jq) && ((kP x.kz y.kz) && true)
theorem xe {x y : jJ} : Az x y = true ↔ x = y := by
 cases x; cases y; simp [Az, lW, jS]
theorem pv (x : jJ) : (kq x).length = 3 := rfl
theorem yR (x : jJ) : ∀ u ∈ kq x, u.oneCell' = true := by
 intro u hu
 simp only [kq, aQ, cW, eX] at hu
 rcases hu with rfl | rfl | rfl <;> rfl
structure yQ where
 Ck : Int
 Cz : Int
def GW (x : yQ) : List Value := [.int .i64 x.Ck, .int .i64 x.Cz]
structure kD where
 e : Int
def lE (x : kD) : List Value := [.int .i64 x.e]
structure kW where
 OU : Bool
def mu (x : kW) : List Value := [.bool x.OU]
structure Key where
 kz : ByteArray
 Key : List Int
structure Signed where
 jr : jr
 Tag : List Int
structure Formula where
 Op : Int
 K : Int
 jq : jq
 Kids : List Formula
structure lD where
 Signed : Signed
 jx : Formula
structure nI where
 jq : jq
 jx : Formula
 lj : List jr
structure kx where
 Name : ByteArray
 jF : List lD
 jP : List nI
structure pU where
 js : kx
 Client : kx
 Formula : Formula
 zP : Int
 pL : yQ
 tK : Int
 xz : Int
 vl : Int
 Keys : List Key
def og (a0 : ByteArray) (b : Int) : Option Int :=
 some (wQ a0 b)
def qY (a0 : ByteArray) (b : Int) : Option Int :=
 ((og a0 b).bind fun d => some d)
def uF  : List Int → Option Bool
 | [] => some true
 | g :: b => ((qY (⟨#[97, 98, 99, 100, 101, 102, 103, 104, 105, 106, 107, 108, 109, 110, 111, 112, 113, 114, 115, 116, 117, 118, 119, 120, 121, 122, 48, 49, 50, 51, 52, 53, 54, 55, 56, 57, 45]⟩ : ByteArray) g).bind fun d => (if (decide (d < 0)) then some false else (uF b)))
def BK (a0 : ByteArray) : Option Bool :=
 ((CD a0).bind fun b => uF b)
def rO (a0 : ByteArray) : Option Bool :=
 ((if (decide ((a0.size : Int) ≥ 1)) then some (decide ((a0.size : Int) ≤ 16)) else some false).bind fun x2 => ((if x2 then ((Aa a0 0).bind fun b => ((qY (⟨#[97, 98, 99, 100, 101, 102, 103, 104, 105, 106, 107, 108, 109, 110, 111, 112, 113, 114, 115, 116, 117, 118, 119, 120, 121, 122]⟩ : ByteArray) (b.toNat : Int)).bind fun g => some (decide (g ≥ 0)))) else some false).bind fun h => ((if h then ((BK a0).bind fun d => some d) else some false).bind fun i => some i)))
def tN (a0 : List Int) : Option (List Int) :=
 ((lX 1 ([]) a0).bind fun b => some b)
def pC (a0 : jq) : Option Bool :=
 ((rO a0.js).bind fun g => ((if g then ((rO a0.Word).bind fun b => some b) else some false).bind fun d => some d))
def nu (a0 b : ByteArray) : Option Int :=
 some (oQ a0 b)
def pf (a0 b : ByteArray) : Option Int :=
 ((nu a0 b).bind fun d => some d)
def rV  : List Int → Option Int
 | [] => some 0
 | b :: d => (if (b != 0) then some b else (rV d))
def uy (a0 : List Int) : Option Int :=
 rV a0
def rp (a0 h : jq) : Option Int :=
 ((pf a0.js h.js).bind fun b => ((pf a0.Word h.Word).bind fun d => ((uy ([b, d])).bind fun g => some g)))
def tk (a0 : jr) : Option Bool :=
 ((pC a0.Head).bind fun A => (((if (a0.Kind == 1) then ((if A then ((rO a0.kz).bind fun d => some d) else some false).bind fun r => some (Sum.inr (r, (⟨a0.Kind, a0.Head, a0.kz, (⟨zS, zS⟩ : jq), (⟨zS, zS⟩ : jq), zS⟩ : jr)))) else (if (a0.Kind == 2) then ((if A then ((pC a0.B).bind fun g => some g) else some false).bind fun t => some (Sum.inr (t, (⟨a0.Kind, a0.Head, zS, a0.B, (⟨zS, zS⟩ : jq), zS⟩ : jr)))) else (if (a0.Kind == 3) then ((if A then ((pC a0.B).bind fun i => some i) else some false).bind fun u => ((if u then some (kP a0.B.js a0.Head.js) else some false).bind fun v => ((if v then ((rO a0.kK).bind fun h => some h) else some false).bind fun w => some (Sum.inr (w, (⟨a0.Kind, a0.Head, zS, a0.B, (⟨zS, zS⟩ : jq), a0.kK⟩ : jr)))))) else (if (a0.Kind == 4) then ((if A then ((pC a0.B).bind fun m => some m) else some false).bind fun x => ((if x then ((pC a0.C).bind fun l => some l) else some false).bind fun y => ((if y then ((rp a0.B a0.C).bind fun j => some (decide (j < 0))) else some false).bind fun z => some (Sum.inr (z, (⟨a0.Kind, a0.Head, zS, a0.B, a0.C, zS⟩ : jr)))))) else some (Sum.inl false))))) : Option (Bool ⊕ (Bool × jr))).bind fun s => match s with | .inl b => some b | .inr (n, p) => ((if n then some (lu p a0) else some false).bind fun q => some q)))
def pz  : Nat → Int → (List Int) → Option (Bool × (List Int))
 | 0, _, _ => none
 | i + 1, b, g => (if (decide (b ≥ 128)) then ((lX 1 g ([(IntKind.u8.wrap (BitVec.ofInt (IntKind.bits .u8) (IntKind.u8.wrap b) ||| BitVec.ofInt (IntKind.bits .u8) 128).toNat)])).bind fun h => (pz i (Int.fdiv b (2 ^ min (Int.toNat 7) (IntKind.bits .i64))) h)) else ((lX 1 g ([(IntKind.u8.wrap b)])).bind fun d => some (true, d)))
def nP (b : List Int) (d : Int) : Option (Bool × (List Int)) :=
 (if (decide (d < 0)) then some (false, b) else pz jY d b)
def xb (b d : List Int) : Option (Bool × (List Int)) :=
 (if (decide ((d.length : Int) > 2048)) then some (false, b) else ((nP b (d.length : Int)).bind fun h => ((lX 1 h.2 d).bind fun g => some (true, g))))
def th (b : List Int) (j : ByteArray) : Option (Bool × (List Int)) :=
 ((rO j).bind fun l => (((if l then ((CD j).bind fun h => ((xb b h).bind fun d => some (d.1, d.2))) else some (false, b)) : Option (Bool × (List Int))).bind fun (i, g) => some (i, g)))
def pA (b : List Int) (i : jq) : Option (Bool × (List Int)) :=
 ((pC i).bind fun n => (((if n then ((th b i.js).bind fun h => some (h.1, h.2)) else some (false, b)) : Option (Bool × (List Int))).bind fun (l, d) => (((if l then ((th d i.Word).bind fun g => some (g.1, g.2)) else some (false, d)) : Option (Bool × (List Int))).bind fun (m, j) => some (m, j))))
def tg (b : List Int) : Option (List Int) :=
 ((tN b).bind fun d => some d)
def wj (a0 : jr) : Option (List Int) :=
 ((tk a0).bind fun p => (if (!p) then some [] else ((nP ([]) a0.Kind).bind fun q => ((pA q.2 a0.Head).bind fun b => (((if (a0.Kind == 1) then ((th b.2 a0.kz).bind fun h => some h.2) else (if (a0.Kind == 2) then ((pA b.2 a0.B).bind fun i => some i.2) else (if (a0.Kind == 3) then ((pA b.2 a0.B).bind fun j => ((th j.2 a0.kK).bind fun l => some l.2)) else (if (a0.Kind == 4) then ((pA b.2 a0.B).bind fun m => ((pA m.2 a0.C).bind fun n => some n.2)) else some b.2)))) : Option (List Int)).bind fun d => ((tg d).bind fun g => some g))))))
def qV (a0 : List jr) : Option (List jr) :=
 ((lX 136 ([]) a0).bind fun b => some b)
def ot (f1 : jr → Option Bool) : List jr → Nat → Option Int
 | [], _ => some (-1)
 | g :: b, i35 => ((f1 g).bind fun d => (if d then some (i35 : Int) else (ot f1 b (i35 + 1))))
def pb (a0 : List jr) (f1 : jr → Option Bool) : Option Int :=
 ot f1 a0 0
def nx (f1 : jr → Option Bool) : Nat → (List jr) → Int → Int → Option (List jr)
 | 0, _, _, _ => none
 | n321 + 1, d, b, g => (if (decide (g < (d.length : Int))) then ((((lB d g).bind fun h => ((f1 h).bind fun j => (if (!j) then ((lB d b).bind fun m => some ((d.set (Int.toNat b) h), (wi0 .i64 (b + 1)))) else some (d, b)))) : Option ((List jr) × Int)).bind fun (i, l) => (nx f1 n321 i l (wi0 .i64 (g + 1)))) else ((qW (decide (0 ≤ b) && decide (b ≤ (d.length : Int)))).bind fun _ => ((qW (decide (0 ≤ b) && decide (b ≤ ((ou d (Int.toNat b) (⟨0, (⟨zS, zS⟩ : jq), zS, (⟨zS, zS⟩ : jq), (⟨zS, zS⟩ : jq), zS⟩ : jr)).length : Int)))).bind fun _ => some ((ou d (Int.toNat b) (⟨0, (⟨zS, zS⟩ : jq), zS, (⟨zS, zS⟩ : jq), (⟨zS, zS⟩ : jq), zS⟩ : jr)).take (Int.toNat b)))))
def qx (a0 : List jr) (f1 : jr → Option Bool) : Option (List jr) :=
 ((pb a0 f1).bind fun b => (if (b == (-1)) then some a0 else nx f1 jY a0 b (wi0 .i64 (b + 1))))
def xB (a0 : jr) : Option Bool :=
 ((tk a0).bind fun b => some (!b))
def vT (a0 b : List Int) : Option Int :=
 some (xU a0 b)
def sW (a0 h : jr) : Option Int :=
 ((wj a0).bind fun b => ((wj h).bind fun d => ((vT b d).bind fun g => some g)))
def nS (d : Int) : Nat → (List jr) → Int → Int → Option ((List jr) × Int)
 | 0, _, _, _ => none
 | j + 1, b, g, h => (if (decide (h < ((b.length - (Int.toNat d) : Nat) : Int))) then ((((lB (b.drop (Int.toNat d)) h).bind fun m => ((lB (b.drop (Int.toNat d)) (wi0 .i64 (h - 1))).bind fun n => (if (!(lu m n)) then ((lB (b.drop (Int.toNat d)) h).bind fun p => ((lB b g).bind fun q => some ((b.set (Int.toNat g) p), (wi0 .i64 (g + 1))))) else some (b, g)))) : Option ((List jr) × Int)).bind fun (i, l) => (nS d j i l (wi0 .i64 (h + 1)))) else some (b, g))
def nV (a0 : List jr) : Nat → Int → Option (List jr)
 | 0, _ => none
 | h + 1, b => (if (decide (b < (a0.length : Int))) then ((lB a0 b).bind fun i => ((lB a0 (wi0 .i64 (b - 1))).bind fun j => (if (lu i j) then ((qW (decide (0 ≤ b) && decide (b ≤ (a0.length : Int)))).bind fun _ => ((nS b jY a0 b 1).bind fun (g, d) => ((qW (decide (0 ≤ d) && decide (d ≤ (g.length : Int)))).bind fun _ => ((qW (decide (0 ≤ d) && decide (d ≤ ((ou g (Int.toNat d) (⟨0, (⟨zS, zS⟩ : jq), zS, (⟨zS, zS⟩ : jq), (⟨zS, zS⟩ : jq), zS⟩ : jr)).length : Int)))).bind fun _ => some ((ou g (Int.toNat d) (⟨0, (⟨zS, zS⟩ : jq), zS, (⟨zS, zS⟩ : jq), (⟨zS, zS⟩ : jq), zS⟩ : jr)).take (Int.toNat d)))))) else (nV a0 h (wi0 .i64 (b + 1)))))) else some a0)
def rX (a0 : List jr) : Option (List jr) :=
 (if (decide ((a0.length : Int) < 2)) then some a0 else nV a0 jY 1)
def yt (a0 : List jr) : Option (List jr) :=
 ((qV a0).bind fun h => ((qx h (fun (x : jr) => xB x)).bind fun b => ((zt (fun (x : (jr × jr)) => sW x.1 x.2) b).bind fun d => ((rX d).bind fun g => some g))))
def pw (g : jr) : List jr → Nat → Option Int
 | [], _ => some (-1)
 | d :: b, i46 => (if (lu g d) then some (i46 : Int) else (pw g b (i46 + 1)))
def vJ (a0 : List jr) (b : jr) : Option Int :=
 pw b a0 0
def rE (a0 : List jr) (b : jr) : Option Bool :=
 ((vJ a0 b).bind fun d => some (decide (d ≥ 0)))
def pM (a0 : List jr) (b : jr) : Option Bool :=
 ((rE a0 b).bind fun d => some d)
def yo (a0 : jr) : Option (List jq) :=
 ((tk a0).bind fun i => (if (!i) then some [] else (((if (a0.Kind != 1) then ((lX 32 ([a0.Head]) ([a0.B])).bind fun h => some h) else some ([a0.Head])) : Option (List jq)).bind fun b => (((if (a0.Kind == 4) then ((lX 32 b ([a0.C])).bind fun g => some g) else some b) : Option (List jq)).bind fun d => some d))))
def oe (j : jr) (b : List (ByteArray × (List jr))) (h : List jr) : List jq → (List (jq × (List jr))) → Option ((List jr) × (List (jq × (List jr))) × (List (ByteArray × (List jr))))
 | [], d => (if (j.Kind == 3) then ((lX 136 ((kZ kP b j.kK).getD []) ([j])).bind fun m => some (h, d, (nT kP b j.kK m))) else some (h, d, b))
 | g :: i, d => ((lX 136 ((kZ jR d g).getD []) ([j])).bind fun l => (oe j b h i (nT jR d g l)))
def sK (j : List (jq × (List (ByteArray × Bool)))) (b : List jr) (g : List (jq × (List jr))) (d : List (ByteArray × (List jr))) (h : List jJ) (n : Int) (l : jr) : Option ((List jr) × (List (jq × (List jr))) × (List (ByteArray × (List jr)))) :=
 ((lX 136 b ([l])).bind fun m => ((yo l).bind fun i => ((qW (decide (0 ≤ 1) && decide (1 ≤ (i.length : Int)))).bind fun _ => oe l d m (i.drop (Int.toNat 1)) g)))
def nG (b : List (jq × (List (ByteArray × Bool)))) (h : List jr) (j : List (jq × (List jr))) (i : List (ByteArray × (List jr))) (d : List jJ) (g : Int) (l : jq) (a2 : ByteArray) : Option ((List (jq × (List (ByteArray × Bool)))) × (List jJ) × Int) :=
 (if (zu kP ((kZ jR b l).getD []) a2 false) then some (b, d, g) else (((if (kZ jR b l).isNone then ((F5 jR b l ([])).bind fun m => some m) else some b) : Option (List (jq × (List (ByteArray × Bool))))).bind fun n => ((FL jR kP n l a2 true).bind fun p => ((lX 48 d ([(⟨l, a2⟩ : jJ)])).bind fun q => some (p, q, (wi0 .i64 (g + 1)))))))
def ow (a0 : List (ByteArray × Bool)) : Option Unit :=
 some ()
def qb (b : List (jq × (List (ByteArray × Bool)))) (d : List jr) (i : List (jq × (List jr))) (g : List (ByteArray × (List jr))) (h : List jJ) (l : Int) (m : jq) : Option (List ByteArray) :=
 ((ow ((kZ jR b m).getD [])).bind fun n => ((Gc ((kZ jR b m).getD [])).bind fun j => some j))
def px (b : List jr) (g : List (jq × (List jr))) (d : List (ByteArray × (List jr))) (a2 : jq) : List ByteArray → (List (jq × (List (ByteArray × Bool)))) → (List jJ) → Int → Option ((List (jq × (List (ByteArray × Bool)))) × (List jJ) × Int)
 | [], h, i, l => some (h, i, l)
 | n :: m, h, i, l => ((nG h b g d i l a2 n).bind fun j => (px b g d a2 m j.1 j.2.1 j.2.2))
def tz (i : List (jq × (List (ByteArray × Bool)))) (b : List jr) (h : List (jq × (List jr))) (d : List (ByteArray × (List jr))) (g : List jJ) (j : Int) (l a2 : jq) : Option ((List (jq × (List (ByteArray × Bool)))) × (List jJ) × Int) :=
 ((qb i b h d g j l).bind fun m => px b h d a2 m i g j)
def qS (b : List (jq × (List (ByteArray × Bool)))) (g : List jr) (i : List (jq × (List jr))) (h : List (ByteArray × (List jr))) (d : List jJ) (j : Int) (l : jr) (a2 : jJ) : Option ((List (jq × (List (ByteArray × Bool)))) × (List jJ) × Int) :=
 (if (l.Kind == 2) then ((nG b g i h d j l.Head a2.kz).bind fun p => some (p.1, p.2.1, p.2.2)) else (if (l.Kind == 3) then ((tz b g i h d j (⟨a2.kz, l.kK⟩ : jq) l.Head).bind fun m => some (m.1, m.2.1, m.2.2)) else (if (l.Kind == 4) then ((if (zu kP ((kZ jR b l.B).getD []) a2.kz false) then some (zu kP ((kZ jR b l.C).getD []) a2.kz false) else some false).bind fun q => (if q then ((nG b g i h d j l.Head a2.kz).bind fun n => some (n.1, n.2.1, n.2.2)) else some (b, d, j))) else some (b, d, j))))
def oO (b : List jr) (g : List (jq × (List jr))) (d : List (ByteArray × (List jr))) (p : jr) : List ByteArray → (List (jq × (List (ByteArray × Bool)))) → (List jJ) → Int → Option ((List (jq × (List (ByteArray × Bool)))) × (List jJ) × Int)
 | [], h, i, l => some (h, i, l)
 | n :: m, h, i, l => ((qS h b g d i l p (⟨p.B, n⟩ : jJ)).bind fun j => (oO b g d p m j.1 j.2.1 j.2.2))
def rW (i : List (jq × (List (ByteArray × Bool)))) (b : List jr) (h : List (jq × (List jr))) (d : List (ByteArray × (List jr))) (g : List jJ) (j : Int) (l : jr) : Option ((List (jq × (List (ByteArray × Bool)))) × (List jJ) × Int) :=
 (if (l.Kind == 1) then ((nG i b h d g j l.Head l.kz).bind fun n => some (n.1, n.2.1, n.2.2)) else ((qb i b h d g j l.B).bind fun m => oO b h d l m i g j))
def nK (j : jJ) (b : List jr) (g : List (jq × (List jr))) (d : List (ByteArray × (List jr))) : List jr → (List (jq × (List (ByteArray × Bool)))) → (List jJ) → Int → Option ((List (jq × (List (ByteArray × Bool)))) × (List jJ) × Int)
 | [], h, i, l => some (h, i, l)
 | p :: n, h, i, l => (if (zu kP ((kZ jR h p.B).getD []) j.jq.js false) then ((nG h b g d i l p.Head j.kz).bind fun m => (nK j b g d n m.1 m.2.1 m.2.2)) else (nK j b g d n h i l))
def oG (b : List jr) (g : List (jq × (List jr))) (d : List (ByteArray × (List jr))) (m : jJ) : List jr → (List (jq × (List (ByteArray × Bool)))) → (List jJ) → Int → Option ((List (jq × (List (ByteArray × Bool)))) × (List jJ) × Int)
 | [], h, i, l => some (h, i, l)
 | p :: n, h, i, l => ((qS h b g d i l p m).bind fun j => (oG b g d m n j.1 j.2.1 j.2.2))
def nk (g : List jr) (d : List (jq × (List jr))) (b : List (ByteArray × (List jr))) : Nat → (List (jq × (List (ByteArray × Bool)))) → (List jJ) → Int → Option ((List (jq × (List (ByteArray × Bool)))) × (List jJ) × Int)
 | 0, _, _, _ => none
 | r + 1, j, h, l => (if (decide ((h.length : Int) > 0)) then ((lB h 0).bind fun i => ((qW (decide (0 ≤ 1) && decide (1 ≤ (h.length : Int)))).bind fun _ => ((oG g d b i ((kZ jR d i.jq).getD []) j (h.drop (Int.toNat 1)) l).bind fun (m, n, s) => ((nK i g d b ((kZ kP b i.jq.Word).getD []) m n s).bind fun (p, q, t) => (nk g d b r p q t))))) else some (j, h, l))
def ud (i : List (jq × (List (ByteArray × Bool)))) (b : List jr) (h : List (jq × (List jr))) (d : List (ByteArray × (List jr))) (g : List jJ) (j : Int) : Option ((List (jq × (List (ByteArray × Bool)))) × (List jJ) × Int) :=
 nk b h d jY i g j
def nJ (p : Int) : List jr → (List (jq × (List (ByteArray × Bool)))) → (List jr) → (List (jq × (List jr))) → (List (ByteArray × (List jr))) → (List jJ) → Int → Option (Int × (List (jq × (List (ByteArray × Bool)))) × (List jr) × (List (jq × (List jr))) × (List (ByteArray × (List jr))) × (List jJ) × Int)
 | [], g, b, h, i, j, l => ((ud g b h i j l).bind fun m => some ((wi0 .i64 (m.2.2 - p)), m.1, b, h, i, m.2.1, m.2.2))
 | n :: r, g, b, h, i, j, l => ((tk n).bind fun s => ((if s then ((pM b n).bind fun t => some (!t)) else some false).bind fun u => (if u then ((sK g b h i j l n).bind fun d => ((rW g d.1 d.2.1 d.2.2 j l n).bind fun q => (nJ p r q.1 d.1 d.2.1 d.2.2 q.2.1 q.2.2))) else (nJ p r g b h i j l))))
def tw (i : List (jq × (List (ByteArray × Bool)))) (b : List jr) (h : List (jq × (List jr))) (d : List (ByteArray × (List jr))) (g : List jJ) (j : Int) (l : List jr) : Option (Int × (List (jq × (List (ByteArray × Bool)))) × (List jr) × (List (jq × (List jr))) × (List (ByteArray × (List jr))) × (List jJ) × Int) :=
 nJ j l i b h d g j
def wB (a0 : List jr) : Option ((List (jq × (List (ByteArray × Bool)))) × (List jr) × (List (jq × (List jr))) × (List (ByteArray × (List jr))) × (List jJ) × Int) :=
 ((tw ([]) ([]) ([]) ([]) ([]) 0 a0).bind fun b => some (b.2.1, b.2.2.1, b.2.2.2.1, b.2.2.2.2.1, b.2.2.2.2.2.1, b.2.2.2.2.2.2))
def pD (a0 h : jJ) : Option Int :=
 ((rp a0.jq h.jq).bind fun b => ((pf a0.kz h.kz).bind fun d => ((uy ([b, d])).bind fun g => some g)))
def vI (d : List (jq × (List (ByteArray × Bool)))) (g : List jr) (j : List (jq × (List jr))) (h : List (ByteArray × (List jr))) (i : List jJ) (m : Int) : Option (List jJ) :=
 ((ND 48 (fun (a : jq) (b : ByteArray) => (⟨a, b⟩ : jJ)) d).bind fun fs => Es fs (fun l => ((zt (fun (x : (jJ × jJ)) => pD x.1 x.2) l).bind fun n => some n)))
def tf (b : List (jq × (List (ByteArray × Bool)))) (d : List jr) (i : List (jq × (List jr))) (g : List (ByteArray × (List jr))) (h : List jJ) (j : Int) (l : jq) (a2 : ByteArray) : Option Bool :=
 some (zu kP ((kZ jR b l).getD []) a2 false)
def ra  : List jr → Int → Option Int
 | [], d => some d
 | b :: g, d => (ra g (wi0 .i64 (d + (wi0 .i64 ((wi0 .i64 ((wi0 .i64 ((wi0 .i64 ((wi0 .i64 ((wi0 .i64 ((wi0 .i64 ((wi0 .i64 (20 + (b.Head.js.size : Int))) + (b.Head.Word.size : Int))) + (b.kz.size : Int))) + (b.B.js.size : Int))) + (b.B.Word.size : Int))) + (b.C.js.size : Int))) + (b.C.Word.size : Int))) + (b.kK.size : Int))))))
def vk (a0 : List jr) : Option Int :=
 ra a0 0
def ri  : List Signed → Int → Option Int
 | [], b => some b
 | d :: g, b => ((vk ([d.jr])).bind fun h => (ri g (wi0 .i64 (b + (wi0 .i64 (h + (d.Tag.length : Int)))))))
def pS (i : List Signed) : List Key → Int → Option Int
 | [], b => ((ri i b).bind fun d => some d)
 | g :: h, b => (pS i h (wi0 .i64 (b + (wi0 .i64 ((wi0 .i64 (10 + (g.kz.size : Int))) + (g.Key.length : Int))))))
def tL (a0 : List Key) (b : List Signed) : Option Int :=
 pS b a0 0
def pO (a0 : ByteArray) : Nat → Int → Option Bool
 | 0, _ => none
 | g + 1, d => (if (decide (d < (a0.size : Int))) then ((Aa a0 d).bind fun b => ((if (decide ((b.toNat : Int) < 97)) then some true else some (decide ((b.toNat : Int) > 122))).bind fun h => ((if h then ((if (decide ((b.toNat : Int) < 48)) then some true else some (decide ((b.toNat : Int) > 57))).bind fun l => some l) else some false).bind fun i => ((if i then some ((b.toNat : Int) != 45) else some false).bind fun j => (if j then some false else (pO a0 g (wi0 .i64 (d + 1)))))))) else some true)
def qM (a0 : ByteArray) : Option Bool :=
 ((if (kP a0 zS) then some true else some (decide ((a0.size : Int) > 16))).bind fun x2 => ((if x2 then some true else ((Aa a0 0).bind fun d => some (decide ((d.toNat : Int) < 97)))).bind fun g => ((if g then some true else ((Aa a0 0).bind fun b => some (decide ((b.toNat : Int) > 122)))).bind fun h => (if h then some false else pO a0 jY 0))))
def si (a0 : jq) : Option Bool :=
 ((qM a0.js).bind fun g => ((if g then ((qM a0.Word).bind fun b => some b) else some false).bind fun d => some d))
def we (a0 b : jq) : Option Bool :=
 ((if (pH a0.js b.js) then some true else ((if (kP a0.js b.js) then some (pH a0.Word b.Word) else some false).bind fun g => some g)).bind fun d => some d)
def vr (a0 : jr) : Option Bool :=
 ((si a0.Head).bind fun v => (if (!v) then some false else (if (a0.Kind == 1) then ((qM a0.kz).bind fun j => ((if j then some (jR a0.B (⟨zS, zS⟩ : jq)) else some false).bind fun m => ((if m then some (jR a0.C (⟨zS, zS⟩ : jq)) else some false).bind fun n => ((if n then some (kP a0.kK zS) else some false).bind fun p => some p)))) else ((if (!(kP a0.kz zS)) then some true else ((si a0.B).bind fun g => some (!g))).bind fun q => (if q then some false else (if (a0.Kind == 2) then ((if (jR a0.C (⟨zS, zS⟩ : jq)) then some (kP a0.kK zS) else some false).bind fun r => some r) else (if (a0.Kind == 3) then ((if (jR a0.C (⟨zS, zS⟩ : jq)) then some (kP a0.B.js a0.Head.js) else some false).bind fun s => ((if s then ((qM a0.kK).bind fun l => some l) else some false).bind fun t => some t)) else ((if (a0.Kind == 4) then some (kP a0.kK zS) else some false).bind fun u => ((if u then ((si a0.C).bind fun d => some d) else some false).bind fun h => ((if h then ((we a0.B a0.C).bind fun b => some b) else some false).bind fun i => some i))))))))))
def sE  : Nat → Int → ByteArray → Option ByteArray
 | 0, _, _ => none
 | n45 + 1, b, d => (if (decide (b ≥ 128)) then ((pR d (DO ([(IntKind.u8.wrap (wi0 .i64 (128 + (Int.tmod b 128))))]))).bind fun g => (sE n45 (wi0 .i64 (Int.tdiv b 128)) g)) else ((pR d (DO ([(IntKind.u8.wrap b)]))).bind fun h => some h))
def qc (a0 : Int) : Option ByteArray :=
 sE jY a0 zS
def tp (a0 : ByteArray) : Option ByteArray :=
 ((qc (a0.size : Int)).bind fun b => ((pR b a0).bind fun d => some d))
def sk (a0 : jq) : Option ByteArray :=
 ((tp a0.js).bind fun b => ((tp a0.Word).bind fun d => ((pR b d).bind fun g => some g)))
def zU (a0 : jr) : Option ByteArray :=
 ((qc a0.Kind).bind fun h => ((sk a0.Head).bind fun i => ((pR h i).bind fun b => (if (a0.Kind == 1) then ((tp a0.kz).bind fun j => ((pR b j).bind fun p => some p)) else ((sk a0.B).bind fun l => ((pR b l).bind fun d => (((if (a0.Kind == 3) then ((tp a0.kK).bind fun n => ((pR d n).bind fun r => some r)) else some d) : Option ByteArray).bind fun g => (((if (a0.Kind == 4) then ((sk a0.C).bind fun m => ((pR g m).bind fun q => some q)) else some g) : Option ByteArray).bind fun s => some s))))))))
def vj (a0 : jr) : Option ByteArray :=
 ((vr a0).bind fun b => (if (!b) then some zS else ((zU a0).bind fun d => some d)))
def sa (a0 g : jr) : Option Int :=
 ((vj a0).bind fun b => ((vj g).bind fun d => (if (pH b d) then some (-1) else (if (!(pH b d || kP b d)) then some 1 else some 0))))
def rf (b : List jr) : List jr → Bool → jr → Option (Bool × jr)
 | [], g, h => some (g, h)
 | d :: i, g, h => ((vr d).bind fun j => ((if j then ((if ((b.length : Int) == 0) then some true else ((lB b (wi0 .i64 ((b.length : Int) - 1))).bind fun s => ((sa s d).bind fun m => some (decide (m < 0))))).bind fun r => some r) else some false).bind fun n => ((if n then ((if (!g) then some true else ((sa d h).bind fun l => some (decide (l < 0)))).bind fun q => some q) else some false).bind fun p => (if p then (rf b i true d) else (rf b i g h)))))
def sV (a0 : List jr) : Nat → (List jr) → Option (List jr)
 | 0, _ => none
 | g + 1, b => ((rf b a0 false (⟨0, (⟨zS, zS⟩ : jq), zS, (⟨zS, zS⟩ : jq), (⟨zS, zS⟩ : jq), zS⟩ : jr)).bind fun (h, i) => (if (!h) then some b else ((lX 136 b ([i])).bind fun d => (sV a0 g d))))
def xr (a0 : List jr) : Option (List jr) :=
 sV a0 jY ([])
def rZ (h : List jr) : List jr → Nat → Option Bool
 | [], _ => some true
 | g :: d, i90 => ((lB h (i90 : Int)).bind fun b => (if (!(lu g b)) then some false else (rZ h d (i90 + 1))))
def uB (a0 b : List jr) : Option Bool :=
 (if ((a0.length : Int) != (b.length : Int)) then some false else rZ b a0 0)
def wE (g : jr) : List jr → Option Bool
 | [] => some false
 | d :: b => (if (lu d g) then some true else (wE g b))
def uh (a0 : List jr) (b : jr) : Option Bool :=
 wE b a0
def rq (b : List ByteArray) : List ByteArray → ByteArray → Option ByteArray
 | [], g => some g
 | d :: h, g => ((qM d).bind fun j => ((if j then ((if ((b.length : Int) == 0) then some true else ((lB b (wi0 .i64 ((b.length : Int) - 1))).bind fun i => some (!(pH d i || kP d i)))).bind fun p => some p) else some false).bind fun l => ((if l then ((if (kP g zS) then some true else some (pH d g)).bind fun n => some n) else some false).bind fun m => (if m then (rq b h d) else (rq b h g)))))
def sX (a0 : List ByteArray) : Nat → (List ByteArray) → Option (List ByteArray)
 | 0, _ => none
 | h + 1, b => ((rq b a0 zS).bind fun d => (if (kP d zS) then some b else ((lX 16 b ([d])).bind fun g => (sX a0 h g))))
def zg (a0 : List ByteArray) : Option (List ByteArray) :=
 sX a0 jY ([])
def rz  : List jr → (List ByteArray) → Option (List ByteArray)
 | [], d => ((zg d).bind fun h => some h)
 | b :: i, d => ((lX 16 d ([b.kz, b.Head.js, b.B.js, b.C.js])).bind fun g => (rz i g))
def xw (a0 : List jr) : Option (List ByteArray) :=
 rz a0 ([])
def vi (h : jq) (a2 : ByteArray) : List jJ → Option Bool
 | [] => some false
 | d :: g => ((if (jR d.jq h) then some (kP d.kz a2) else some false).bind fun b => (if b then some true else (vi h a2 g)))
def tT (a0 : List jJ) (b : jq) (a2 : ByteArray) : Option Bool :=
 vi b a2 a0
def tR (a0 : List jJ) (j : jr) (a3 : ByteArray) : List ByteArray → Option Bool
 | [] => some false
 | b :: d => ((tT a0 j.B b).bind fun g => ((if g then ((tT a0 (⟨b, j.kK⟩ : jq) a3).bind fun h => some h) else some false).bind fun i => (if i then some true else (tR a0 j a3 d))))
def yw (a0 : List jJ) (b : jr) (a2 : List ByteArray) (a3 : ByteArray) : Option Bool :=
 (if (b.Kind == 1) then some (kP b.kz a3) else (if (b.Kind == 2) then ((tT a0 b.B a3).bind fun h => some h) else (if (b.Kind == 4) then ((tT a0 b.B a3).bind fun i => ((if i then ((tT a0 b.C a3).bind fun d => some d) else some false).bind fun g => some g)) else tR a0 b a3 a2)))
def sZ (a0 b : jJ) : Option Bool :=
 ((we a0.jq b.jq).bind fun h => ((if h then some true else ((if (jR a0.jq b.jq) then some (pH a0.kz b.kz) else some false).bind fun g => some g)).bind fun d => some d))
def oD (d a0 : List jJ) : List jJ → Nat → Int → Option Int
 | [], _, b => some b
 | i :: h, g, b => ((if ((d.length : Int) == 0) then some true else ((lB d (wi0 .i64 ((d.length : Int) - 1))).bind fun r => ((sZ r i).bind fun l => some l))).bind fun m => ((if m then ((if (decide (b < 0)) then some true else ((lB a0 b).bind fun q => ((sZ i q).bind fun j => some j))).bind fun p => some p) else some false).bind fun n => (if n then (oD d a0 h (g + 1) (g : Int)) else (oD d a0 h (g + 1) b))))
def oB (a0 : List jJ) : List jJ → (List jJ) → Option (List jJ)
 | [], b => some b
 | j :: g, b => ((oD b a0 a0 0 (-1)).bind fun d => (if (decide (d ≥ 0)) then ((lB a0 d).bind fun i => ((lX 48 b ([i])).bind fun h => (oB a0 g h))) else (oB a0 g b)))
def za (a0 : List jJ) : Option (List jJ) :=
 oB a0 a0 ([])
def tM (d : jr) (p : List ByteArray) : List ByteArray → (List jJ) → Bool → Option ((List jJ) × Bool)
 | [], b, h => some (b, h)
 | g :: i, b, h => ((tT b d.Head g).bind fun l => ((if (!l) then ((yw b d p g).bind fun m => some m) else some false).bind fun n => (if n then ((lX 48 b ([(⟨d.Head, g⟩ : jJ)])).bind fun j => (tM d p i j true)) else (tM d p i b h))))
def vv (l : List ByteArray) : List jr → (List jJ) → Bool → Option ((List jJ) × Bool)
 | [], b, d => some (b, d)
 | i :: g, b, d => ((tM i l l b d).bind fun (h, j) => (vv l g h j))
def tJ (j : List ByteArray) (l : List jr) : Nat → (List jJ) → Option (List jJ)
 | 0, _ => none
 | d + 1, i => ((vv j l i false).bind fun (b, h) => (if (!h) then ((za b).bind fun g => some g) else (tJ j l d b)))
def uW (a0 : List jr) : Option (List jJ) :=
 ((xr a0).bind fun d => ((xw d).bind fun b => tJ b d jY ([])))
def uE (a0 : List jr) (d : ByteArray) : Option ((List (jq × (List (ByteArray × Bool)))) × (List jr) × (List (jq × (List jr))) × (List (ByteArray × (List jr))) × (List jJ) × Int × ByteArray) :=
 ((wB a0).bind fun b => some (b.1, b.2.1, b.2.2.1, b.2.2.2.1, b.2.2.2.2.1, b.2.2.2.2.2, d))
def nh (f1 : lD → Option Bool) : List lD → Nat → Option Int
 | [], _ => some (-1)
 | g :: b, i47 => ((f1 g).bind fun d => (if d then some (i47 : Int) else (nh f1 b (i47 + 1))))
def sn (a0 : List lD) (f1 : lD → Option Bool) : Option Int :=
 nh f1 a0 0
def vN (a0 : lD) (b : jr) : Option Bool :=
 some (lu a0.Signed.jr b)
def yk (a0 : kx) (g : jr) : Option (lD × Bool) :=
 ((sn a0.jF (fun (x : lD) => vN x g)).bind fun b => (if (decide (b < 0)) then some ((⟨(⟨(⟨0, (⟨zS, zS⟩ : jq), zS, (⟨zS, zS⟩ : jq), (⟨zS, zS⟩ : jq), zS⟩ : jr), []⟩ : Signed), (⟨0, 0, (⟨zS, zS⟩ : jq), []⟩ : Formula)⟩ : lD), false) else ((lB a0.jF b).bind fun d => some (d, true))))
def tV (a0 : List nI) : Option (List nI) :=
 ((lX 128 ([]) a0).bind fun b => some b)
def nL (f1 : nI → Option Bool) : List nI → Nat → Option Int
 | [], _ => some (-1)
 | g :: b, i47 => ((f1 g).bind fun d => (if d then some (i47 : Int) else (nL f1 b (i47 + 1))))
def ul (a0 : List nI) (f1 : nI → Option Bool) : Option Int :=
 nL f1 a0 0
def nD (f1 : nI → Option Bool) : Nat → (List nI) → Int → Int → Option (List nI)
 | 0, _, _, _ => none
 | j + 1, d, b, g => (if (decide (g < (d.length : Int))) then ((((lB d g).bind fun h => ((f1 h).bind fun l => (if (!l) then ((lB d b).bind fun n => some ((d.set (Int.toNat b) h), (wi0 .i64 (b + 1)))) else some (d, b)))) : Option ((List nI) × Int)).bind fun (i, m) => (nD f1 j i m (wi0 .i64 (g + 1)))) else ((qW (decide (0 ≤ b) && decide (b ≤ (d.length : Int)))).bind fun _ => ((qW (decide (0 ≤ b) && decide (b ≤ ((ou d (Int.toNat b) (⟨(⟨zS, zS⟩ : jq), (⟨0, 0, (⟨zS, zS⟩ : jq), []⟩ : Formula), []⟩ : nI)).length : Int)))).bind fun _ => some ((ou d (Int.toNat b) (⟨(⟨zS, zS⟩ : jq), (⟨0, 0, (⟨zS, zS⟩ : jq), []⟩ : Formula), []⟩ : nI)).take (Int.toNat b)))))
def qR (a0 : List nI) (f1 : nI → Option Bool) : Option (List nI) :=
 ((ul a0 f1).bind fun b => (if (b == (-1)) then some a0 else nD f1 jY a0 b (wi0 .i64 (b + 1))))
def rA (a0 : nI) (b : jr) : Option Bool :=
 ((pM a0.lj b).bind fun d => some (!d))
def xE (a0 : kx) (d : jr) : Option (List nI) :=
 ((tV a0.jP).bind fun g => ((qR g (fun (x : nI) => rA x d)).bind fun b => some b))
def oT (i : Int) (rec : Formula → Int → Option (Int × Int)) : List Formula → Int → Int → Option (Int × Int)
 | [], b, g => some (b, g)
 | j :: h, b, g => (if (decide (b > i)) then some (b, g) else ((rec j (wi0 .i64 (i - b))).bind fun d => (oT i rec h (wi0 .i64 (b + d.1)) (if d.2 > g then d.2 else g))))
def uX (rec : Formula → Int → Option (Int × Int)) (a0 : Formula) (g : Int) : Option (Int × Int) :=
 ((oT g rec a0.Kids 1 0).bind fun (b, d) => some (b, (wi0 .i64 (d + 1))))
def nW : Nat → Formula → Int → Option (Int × Int)
 | 0 => fun _ _ => none
 | n + 1 => uX (nW n)
def wI (a0 : Formula) : Option (Int × Int) :=
 ((nW jY a0 4096).bind fun b => (if (decide (b.1 > 4096)) then some (0, 0) else some (b.1, b.2)))
def wH (a0 : Formula) : Option Bool :=
 (if (a0.Op == 1) then ((pC a0.jq).bind fun h => ((if h then some ((a0.Kids.length : Int) == 0) else some false).bind fun i => ((if i then some (a0.K == 0) else some false).bind fun j => some j))) else ((if (a0.Op == 2) then some (a0.Op == 2) else some (a0.Op == 3)).bind fun l => (if l then ((if (jR a0.jq (⟨zS, zS⟩ : jq)) then some (a0.K == 0) else some false).bind fun m => some m) else ((if (a0.Op == 4) then some (jR a0.jq (⟨zS, zS⟩ : jq)) else some false).bind fun n => ((if n then some (decide (a0.K ≥ 0)) else some false).bind fun b => ((if b then some (decide (a0.K ≤ (a0.Kids.length : Int))) else some false).bind fun d => ((if d then some (decide ((a0.Kids.length : Int) ≥ 1)) else some false).bind fun g => some g)))))))
def ni (f1 : Formula → Option Bool) : List Formula → Nat → Option Int
 | [], _ => some (-1)
 | g :: b, i41 => ((f1 g).bind fun d => (if d then some (i41 : Int) else (ni f1 b (i41 + 1))))
def sh (a0 : List Formula) (f1 : Formula → Option Bool) : Option Int :=
 ni f1 a0 0
def nM (a0 : List Formula) (f1 : Formula → Option Bool) : Option Bool :=
 ((sh a0 f1).bind fun b => some (decide (b ≥ 0)))
def tQ (rec : Formula → Option Bool) (a0 : Formula) : Option Bool :=
 ((rec a0).bind fun b => some (!b))
def vc (rec : Formula → Option Bool) (a0 : Formula) : Option Bool :=
 ((wH a0).bind fun g => ((if g then some (decide ((a0.Kids.length : Int) ≤ 8)) else some false).bind fun h => ((if h then ((nM a0.Kids (fun (x : Formula) => tQ rec x)).bind fun b => some (!b)) else some false).bind fun d => some d)))
def qH : Nat → Formula → Option Bool
 | 0 => fun _ => none
 | n + 1 => vc (qH n)
def qG (a0 : Formula) : Option Bool :=
 ((wI a0).bind fun d => ((if (decide (d.1 ≥ 1)) then some (decide (d.1 ≤ 64)) else some false).bind fun i => ((if i then some (decide (d.2 ≤ 6)) else some false).bind fun g => ((if g then ((qH jY a0).bind fun b => some b) else some false).bind fun h => some h))))
def sS (a0 : Formula) (b : Int) : Option Bool :=
 ((if (a0.Op == b) then some ((a0.Kids.length : Int) == 0) else some false).bind fun x6 => some x6)
def tU  : Option Formula :=
 some (⟨2, 0, (⟨zS, zS⟩ : jq), []⟩ : Formula)
def yY  : Option Formula :=
 some (⟨3, 0, (⟨zS, zS⟩ : jq), []⟩ : Formula)
def pV (a0 : Int) : List Formula → (List Formula) → Option (List Formula)
 | [], b => some b
 | d :: g, b => (if (d.Op == a0) then ((lX 72 b d.Kids).bind fun h => (pV a0 g h)) else ((lX 72 b ([d])).bind fun i => (pV a0 g i)))
def zZ (a0 : Int) (b : List Formula) : Option (List Formula) :=
 pV a0 b ([])
def qf (a0 : Formula) (b : Int) : Option Bool :=
 ((sS a0 b).bind fun d => some d)
def rD (a0 : List Formula) : Option (List Formula) :=
 ((lX 72 ([]) a0).bind fun b => some b)
def lK (r : Int) (f3 : (Formula × Formula) → Option Int) : Nat → (List Formula) → Int → Option (List Formula)
 | 0, _, _ => none
 | i + 1, d, b => ((if (decide (b > r)) then ((lB d b).bind fun m => ((lB d (wi0 .i64 (b - 1))).bind fun n => ((f3 (m, n)).bind fun j => some (decide (j < 0))))) else some false).bind fun l => (if l then ((lB d (wi0 .i64 (b - 1))).bind fun h => ((lB d b).bind fun g => ((lB d b).bind fun p => ((lB (d.set (Int.toNat b) h) (wi0 .i64 (b - 1))).bind fun q => (lK r f3 i ((d.set (Int.toNat b) h).set (Int.toNat (wi0 .i64 (b - 1))) (⟨g.Op, g.K, g.jq, g.Kids⟩ : Formula)) (wi0 .i64 (b - 1))))))) else some d))
def lm (a2 i : Int) (f3 : (Formula × Formula) → Option Int) : Nat → (List Formula) → Int → Option (List Formula)
 | 0, _, _ => none
 | h + 1, d, b => (if (decide (b < a2)) then ((lK i f3 jY d b).bind fun g => (lm a2 i f3 h g (wi0 .i64 (b + 1)))) else some d)
def mS (a0 : List Formula) (b a2 : Int) (f3 : (Formula × Formula) → Option Int) : Option (List Formula) :=
 lm a2 b f3 jY a0 (wi0 .i64 (b + 1))
def me (a3 a2 i : Int) : Nat → (List Formula) → Int → Option (List Formula)
 | 0, _, _ => none
 | j + 1, d, b => (if (decide (b < a3)) then ((lB d (wi0 .i64 (a2 + b))).bind fun h => ((lB d (wi0 .i64 (i + b))).bind fun g => ((lB d (wi0 .i64 (i + b))).bind fun l => ((lB (d.set (Int.toNat (wi0 .i64 (i + b))) h) (wi0 .i64 (a2 + b))).bind fun m => (me a3 a2 i j ((d.set (Int.toNat (wi0 .i64 (i + b))) h).set (Int.toNat (wi0 .i64 (a2 + b))) (⟨g.Op, g.K, g.jq, g.Kids⟩ : Formula)) (wi0 .i64 (b + 1))))))) else some d)
def mM (a0 : List Formula) (b a2 a3 : Int) (f4 : (Formula × Formula) → Option Int) : Option (List Formula) :=
 me a3 a2 b jY a0 0
def mx (a2 : Int) (f4 : (Formula × Formula) → Option Int) : Nat → (List Formula) → Int → Int → Option (List Formula)
 | 0, _, _, _ => none
 | n185 + 1, g, b, d => (if (b != d) then (if (decide (b > d)) then ((mM g (wi0 .i64 (a2 - b)) a2 d f4).bind fun h => (mx a2 f4 n185 h (wi0 .i64 (b - d)) d)) else ((mM g (wi0 .i64 (a2 - b)) (wi0 .i64 ((wi0 .i64 (a2 + d)) - b)) b f4).bind fun i => (mx a2 f4 n185 i b (wi0 .i64 (d - b))))) else ((mM g (wi0 .i64 (a2 - b)) a2 b f4).bind fun j => some j))
def mI (a0 : List Formula) (b a2 a3 : Int) (f4 : (Formula × Formula) → Option Int) : Option (List Formula) :=
 mx a2 f4 jY a0 (wi0 .i64 (a2 - b)) (wi0 .i64 (a3 - a2))
def mj (i : Int) : Nat → (List Formula) → Int → Option (List Formula)
 | 0, _, _ => none
 | j + 1, d, b => (if (decide (b < (wi0 .i64 (i - 1)))) then ((lB d (wi0 .i64 (b + 1))).bind fun h => ((lB d b).bind fun g => ((lB d b).bind fun l => ((lB (d.set (Int.toNat b) h) (wi0 .i64 (b + 1))).bind fun m => (mj i j ((d.set (Int.toNat b) h).set (Int.toNat (wi0 .i64 (b + 1))) (⟨g.Op, g.K, g.jq, g.Kids⟩ : Formula)) (wi0 .i64 (b + 1))))))) else some d)
def kU (a0 : List Formula) (l : Int) (f4 : (Formula × Formula) → Option Int) : Nat → Int → Int → Option (List Formula)
 | 0, _, _ => none
 | n325 + 1, b, d => (if (decide (b < d)) then ((lB a0 (wi0 .i64 (Int.fdiv (IntKind.u64.wrap (wi0 .i64 (b + d))) (2 ^ min (Int.toNat 1) (IntKind.bits .u64))))).bind fun i => ((lB a0 l).bind fun j => ((f4 (i, j)).bind fun h => (if (decide (h < 0)) then (kU a0 l f4 n325 (wi0 .i64 ((wi0 .i64 (Int.fdiv (IntKind.u64.wrap (wi0 .i64 (b + d))) (2 ^ min (Int.toNat 1) (IntKind.bits .u64)))) + 1)) d) else (kU a0 l f4 n325 b (wi0 .i64 (Int.fdiv (IntKind.u64.wrap (wi0 .i64 (b + d))) (2 ^ min (Int.toNat 1) (IntKind.bits .u64))))))))) else ((mj b jY a0 l).bind fun g => some g))
def mh (h : Int) : Nat → (List Formula) → Int → Option (List Formula)
 | 0, _, _ => none
 | j + 1, d, b => (if (decide (b > h)) then ((lB d (wi0 .i64 (b - 1))).bind fun i => ((lB d b).bind fun g => ((lB d b).bind fun l => ((lB (d.set (Int.toNat b) i) (wi0 .i64 (b - 1))).bind fun m => (mh h j ((d.set (Int.toNat b) i).set (Int.toNat (wi0 .i64 (b - 1))) (⟨g.Op, g.K, g.jq, g.Kids⟩ : Formula)) (wi0 .i64 (b - 1))))))) else some d)
def kV (a0 : List Formula) (a2 : Int) (f4 : (Formula × Formula) → Option Int) : Nat → Int → Int → Option (List Formula)
 | 0, _, _ => none
 | g + 1, b, d => (if (decide (b < d)) then ((lB a0 a2).bind fun j => ((lB a0 (wi0 .i64 (Int.fdiv (IntKind.u64.wrap (wi0 .i64 (b + d))) (2 ^ min (Int.toNat 1) (IntKind.bits .u64))))).bind fun l => ((f4 (j, l)).bind fun i => (if (!(decide (i < 0))) then (kV a0 a2 f4 g (wi0 .i64 ((wi0 .i64 (Int.fdiv (IntKind.u64.wrap (wi0 .i64 (b + d))) (2 ^ min (Int.toNat 1) (IntKind.bits .u64)))) + 1)) d) else (kV a0 a2 f4 g b (wi0 .i64 (Int.fdiv (IntKind.u64.wrap (wi0 .i64 (b + d))) (2 ^ min (Int.toNat 1) (IntKind.bits .u64))))))))) else ((mh b jY a0 a2).bind fun h => some h))
def kF (a0 : List Formula) (g a3 a2 : Int) (f4 : (Formula × Formula) → Option Int) (rec : (List Formula) → Int → Int → Int → ((Formula × Formula) → Option Int) → Option (List Formula)) : Nat → Int → Int → Option (List Formula)
 | 0, _, _ => none
 | j + 1, b, d => (if (decide (b < d)) then ((lB a0 (wi0 .i64 ((wi0 .i64 ((wi0 .i64 ((wi0 .i64 (Int.fdiv (IntKind.u64.wrap (wi0 .i64 (g + a3))) (2 ^ min (Int.toNat 1) (IntKind.bits .u64)))) + a2)) - 1)) - (wi0 .i64 (Int.fdiv (IntKind.u64.wrap (wi0 .i64 (b + d))) (2 ^ min (Int.toNat 1) (IntKind.bits .u64))))))).bind fun q => ((lB a0 (wi0 .i64 (Int.fdiv (IntKind.u64.wrap (wi0 .i64 (b + d))) (2 ^ min (Int.toNat 1) (IntKind.bits .u64))))).bind fun r => ((f4 (q, r)).bind fun l => (if (!(decide (l < 0))) then (kF a0 g a3 a2 f4 rec j (wi0 .i64 ((wi0 .i64 (Int.fdiv (IntKind.u64.wrap (wi0 .i64 (b + d))) (2 ^ min (Int.toNat 1) (IntKind.bits .u64)))) + 1)) d) else (kF a0 g a3 a2 f4 rec j b (wi0 .i64 (Int.fdiv (IntKind.u64.wrap (wi0 .i64 (b + d))) (2 ^ min (Int.toNat 1) (IntKind.bits .u64))))))))) else ((((if (decide (b < a2)) then some (decide (a2 < (wi0 .i64 ((wi0 .i64 ((wi0 .i64 (Int.fdiv (IntKind.u64.wrap (wi0 .i64 (g + a3))) (2 ^ min (Int.toNat 1) (IntKind.bits .u64)))) + a2)) - b)))) else some false).bind fun u => (if u then ((mI a0 b a2 (wi0 .i64 ((wi0 .i64 ((wi0 .i64 (Int.fdiv (IntKind.u64.wrap (wi0 .i64 (g + a3))) (2 ^ min (Int.toNat 1) (IntKind.bits .u64)))) + a2)) - b)) f4).bind fun p => some p) else some a0)) : Option (List Formula)).bind fun h => ((((if (decide (g < b)) then some (decide (b < (wi0 .i64 (Int.fdiv (IntKind.u64.wrap (wi0 .i64 (g + a3))) (2 ^ min (Int.toNat 1) (IntKind.bits .u64)))))) else some false).bind fun t => (if t then ((rec h g b (wi0 .i64 (Int.fdiv (IntKind.u64.wrap (wi0 .i64 (g + a3))) (2 ^ min (Int.toNat 1) (IntKind.bits .u64)))) f4).bind fun n => some n) else some h)) : Option (List Formula)).bind fun i => ((if (decide ((wi0 .i64 (Int.fdiv (IntKind.u64.wrap (wi0 .i64 (g + a3))) (2 ^ min (Int.toNat 1) (IntKind.bits .u64)))) < (wi0 .i64 ((wi0 .i64 ((wi0 .i64 (Int.fdiv (IntKind.u64.wrap (wi0 .i64 (g + a3))) (2 ^ min (Int.toNat 1) (IntKind.bits .u64)))) + a2)) - b)))) then some (decide ((wi0 .i64 ((wi0 .i64 ((wi0 .i64 (Int.fdiv (IntKind.u64.wrap (wi0 .i64 (g + a3))) (2 ^ min (Int.toNat 1) (IntKind.bits .u64)))) + a2)) - b)) < a3)) else some false).bind fun s => (if s then ((rec i (wi0 .i64 (Int.fdiv (IntKind.u64.wrap (wi0 .i64 (g + a3))) (2 ^ min (Int.toNat 1) (IntKind.bits .u64)))) (wi0 .i64 ((wi0 .i64 ((wi0 .i64 (Int.fdiv (IntKind.u64.wrap (wi0 .i64 (g + a3))) (2 ^ min (Int.toNat 1) (IntKind.bits .u64)))) + a2)) - b)) a3 f4).bind fun m => some m) else some i)))))
def oJ (rec : (List Formula) → Int → Int → Int → ((Formula × Formula) → Option Int) → Option (List Formula)) (a0 : List Formula) (b a2 a3 : Int) (f4 : (Formula × Formula) → Option Int) : Option (List Formula) :=
 (if ((wi0 .i64 (a2 - b)) == 1) then kU a0 b f4 jY a2 a3 else (if ((wi0 .i64 (a3 - a2)) == 1) then kV a0 a2 f4 jY b a2 else (((if (decide (a2 > (wi0 .i64 (Int.fdiv (IntKind.u64.wrap (wi0 .i64 (b + a3))) (2 ^ min (Int.toNat 1) (IntKind.bits .u64)))))) then some ((wi0 .i64 ((wi0 .i64 ((wi0 .i64 (Int.fdiv (IntKind.u64.wrap (wi0 .i64 (b + a3))) (2 ^ min (Int.toNat 1) (IntKind.bits .u64)))) + a2)) - a3)), (wi0 .i64 (Int.fdiv (IntKind.u64.wrap (wi0 .i64 (b + a3))) (2 ^ min (Int.toNat 1) (IntKind.bits .u64))))) else some (b, a2)) : Option (Int × Int)).bind fun (d, g) => kF a0 b a3 a2 f4 rec jY d g)))
def lx : Nat → (List Formula) → Int → Int → Int → ((Formula × Formula) → Option Int) → Option (List Formula)
 | 0 => fun _ _ _ _ _ => none
 | n + 1 => oJ (lx n)
def mw (l d : Int) (f2 : (Formula × Formula) → Option Int) : Nat → (List Formula) → Int → Int → Option ((List Formula) × Int)
 | 0, _, _, _ => none
 | i + 1, h, g, b => (if (decide (b ≤ l)) then ((lx jY h g (wi0 .i64 (g + d)) b f2).bind fun j => (mw l d f2 i j b (wi0 .i64 (b + (wi0 .i64 (2 * d)))))) else some (h, g))
def lU (m : Int) (f2 : (Formula × Formula) → Option Int) : Nat → (List Formula) → Int → Option (List Formula)
 | 0, _, _ => none
 | j + 1, g, b => (if (decide (b < m)) then ((mw m b f2 jY g 0 (wi0 .i64 (2 * b))).bind fun (h, d) => (((if (decide ((wi0 .i64 (d + b)) < m)) then ((lx jY h d (wi0 .i64 (d + b)) m f2).bind fun l => some l) else some h) : Option (List Formula)).bind fun i => (lU m f2 j i (wi0 .i64 (b * 2))))) else some g)
def lV (l : Int) (f2 : (Formula × Formula) → Option Int) : Nat → (List Formula) → Int → Int → Option (List Formula)
 | 0, _, _, _ => none
 | n123 + 1, g, j, b => (if (decide (b ≤ l)) then ((mS g j b f2).bind fun h => (lV l f2 n123 h b (wi0 .i64 (b + 20)))) else ((mS g j l f2).bind fun i => ((lU l f2 jY i 20).bind fun d => some d)))
def qD (a0 : List Formula) (b : Int) (f2 : (Formula × Formula) → Option Int) : Option (List Formula) :=
 lV b f2 jY a0 0 20
def oz (a0 : List Formula) (f1 : (Formula × Formula) → Option Int) : Option (List Formula) :=
 ((qD a0 (a0.length : Int) f1).bind fun b => some b)
def pW (rec : (List Int) → Formula → Option (List Int)) : List Formula → (List Int) → Option (List Int)
 | [], b => some b
 | h :: d, b => ((rec b h).bind fun g => (pW rec d g))
def vh (rec : (List Int) → Formula → Option (List Int)) (d : List Int) (b : Formula) : Option (List Int) :=
 ((nP d b.Op).bind fun j => (if (b.Op == 1) then ((pA j.2 b.jq).bind fun i => some i.2) else (((if (b.Op == 4) then ((nP j.2 b.K).bind fun g => some g.2) else some j.2) : Option (List Int)).bind fun h => ((nP h (b.Kids.length : Int)).bind fun l => pW rec b.Kids l.2))))
def pn : Nat → (List Int) → Formula → Option (List Int)
 | 0 => fun _ _ => none
 | n + 1 => vh (pn n)
def vO (b : List Int) (d : Formula) : Option (Bool × (List Int)) :=
 ((qG d).bind fun g => (if (!g) then some (false, b) else ((pn jY b d).bind fun h => some (true, h))))
def sD (a0 : Formula) : Option (List Int) :=
 ((vO ([]) a0).bind fun d => ((tg d.2).bind fun b => some b))
def sv (a0 h : Formula) : Option Int :=
 ((sD a0).bind fun b => ((sD h).bind fun d => ((vT b d).bind fun g => some g)))
def uI (a0 : List Formula) : Option (List Formula) :=
 ((rD a0).bind fun d => ((oz d (fun (x : (Formula × Formula)) => sv x.1 x.2)).bind fun b => some b))
def mG (d : Int) (f1 : (Formula × Formula) → Option Bool) : Nat → (List Formula) → Int → Int → Option ((List Formula) × Int)
 | 0, _, _, _ => none
 | j + 1, b, g, h => (if (decide (h < ((b.length - (Int.toNat d) : Nat) : Int))) then ((((lB (b.drop (Int.toNat d)) h).bind fun n => ((lB (b.drop (Int.toNat d)) (wi0 .i64 (h - 1))).bind fun p => ((f1 (n, p)).bind fun l => (if (!l) then ((lB (b.drop (Int.toNat d)) h).bind fun q => ((lB b g).bind fun r => some ((b.set (Int.toNat g) q), (wi0 .i64 (g + 1))))) else some (b, g))))) : Option ((List Formula) × Int)).bind fun (i, m) => (mG d f1 j i m (wi0 .i64 (h + 1)))) else some (b, g))
def mE (a0 : List Formula) (f1 : (Formula × Formula) → Option Bool) : Nat → Int → Option (List Formula)
 | 0, _ => none
 | h + 1, b => (if (decide (b < (a0.length : Int))) then ((lB a0 b).bind fun j => ((lB a0 (wi0 .i64 (b - 1))).bind fun l => ((f1 (j, l)).bind fun i => (if i then ((qW (decide (0 ≤ b) && decide (b ≤ (a0.length : Int)))).bind fun _ => ((mG b f1 jY a0 b 1).bind fun (g, d) => ((qW (decide (0 ≤ d) && decide (d ≤ (g.length : Int)))).bind fun _ => ((qW (decide (0 ≤ d) && decide (d ≤ ((ou g (Int.toNat d) (⟨0, 0, (⟨zS, zS⟩ : jq), []⟩ : Formula)).length : Int)))).bind fun _ => some ((ou g (Int.toNat d) (⟨0, 0, (⟨zS, zS⟩ : jq), []⟩ : Formula)).take (Int.toNat d)))))) else (mE a0 f1 h (wi0 .i64 (b + 1))))))) else some a0)
def oZ (a0 : List Formula) (f1 : (Formula × Formula) → Option Bool) : Option (List Formula) :=
 (if (decide ((a0.length : Int) < 2)) then some a0 else mE a0 f1 jY 1)
def kT (i : List Formula) (f2 : (Formula × Formula) → Option Bool) : List Formula → Nat → Option Bool
 | [], _ => some true
 | h :: g, i95 => ((lB i (i95 : Int)).bind fun d => ((f2 (h, d)).bind fun b => (if (!b) then some false else (kT i f2 g (i95 + 1)))))
def mF (a0 b : List Formula) (f2 : (Formula × Formula) → Option Bool) : Option Bool :=
 (if ((a0.length : Int) != (b.length : Int)) then some false else kT b f2 a0 0)
def vH (rec : Formula → Formula → Option Bool) (a0 b : Formula) : Option Bool :=
 ((if (a0.Op == b.Op) then some (a0.K == b.K) else some false).bind fun g => ((if g then some (jR a0.jq b.jq) else some false).bind fun h => ((if h then ((mF a0.Kids b.Kids (fun (x : (Formula × Formula)) => rec x.1 x.2)).bind fun d => some d) else some false).bind fun i => some i)))
def nB : Nat → Formula → Formula → Option Bool
 | 0 => fun _ _ => none
 | n + 1 => vH (nB n)
def nU (a0 : kD) (g : Int) (a2 : List Formula) : Option (Formula × kD) :=
 ((zZ g a2).bind fun l => ((nM l (fun (x : Formula) => qf x (wi0 .i64 (5 - g)))).bind fun h => (if h then some ((⟨(wi0 .i64 (5 - g)), 0, (⟨zS, zS⟩ : jq), []⟩ : Formula), a0) else ((uI l).bind fun i => ((oZ i (fun (x : (Formula × Formula)) => nB jY x.1 x.2)).bind fun b => (((if (decide ((b.length : Int) > 64)) then some (⟨12⟩ : kD) else some a0) : Option kD).bind fun d => (if ((b.length : Int) == 1) then ((lB b 0).bind fun j => some (j, d)) else some ((⟨g, 0, (⟨zS, zS⟩ : jq), b⟩ : Formula), d))))))))
def mD (a0 : kD) : List Formula → Int → (List Formula) → Option (Formula × kD)
 | [], d, b => (if (decide (d ≤ 0)) then (tU.bind fun p => some (p, a0)) else (if (decide (d > (b.length : Int))) then (yY.bind fun q => some (q, a0)) else (if (d == (b.length : Int)) then ((nU a0 2 b).bind fun i => some (i.1, i.2)) else (if (d == 1) then ((nU a0 3 b).bind fun j => some (j.1, j.2)) else ((uI b).bind fun r => some ((⟨4, d, (⟨zS, zS⟩ : jq), r⟩ : Formula), a0))))))
 | h :: g, d, b => ((sS h 2).bind fun m => (if m then (mD a0 g (wi0 .i64 (d - 1)) b) else ((sS h 3).bind fun n => (if (!n) then ((lX 72 b ([h])).bind fun l => (mD a0 g d l)) else (mD a0 g d b)))))
def qg (a0 : kD) (b : Int) (a2 : List Formula) : Option (Formula × kD) :=
 mD a0 a2 b ([])
def nE (rec : kD → Formula → Option (Formula × kD)) (n : Formula) : List Formula → (List Formula) → kD → Option (Formula × kD)
 | [], b, d => (if (n.Op == 4) then ((qg d n.K b).bind fun h => some (h.1, h.2)) else ((nU d n.Op b).bind fun i => some (i.1, i.2)))
 | m :: j, b, d => ((rec d m).bind fun g => ((lX 72 b ([g.1])).bind fun l => (nE rec n j l g.2)))
def ry (rec : kD → Formula → Option (Formula × kD)) (a0 : kD) (b : Formula) : Option (Formula × kD) :=
 (if (b.Op == 1) then some (b, a0) else nE rec b b.Kids ([]) a0)
def nf : Nat → kD → Formula → Option (Formula × kD)
 | 0 => fun _ _ => none
 | n + 1 => ry (nf n)
def vG (a0 : Formula) : Option (Formula × Int) :=
 ((qG a0).bind fun h => (if (!h) then some ((⟨0, 0, (⟨zS, zS⟩ : jq), []⟩ : Formula), 11) else ((nf jY (⟨0⟩ : kD) a0).bind fun b => ((if (b.2.e != 0) then some true else ((qG b.1).bind fun d => some (!d))).bind fun g => (if g then some ((⟨0, 0, (⟨zS, zS⟩ : jq), []⟩ : Formula), 12) else some (b.1, 0))))))
def xC (a0 d : Formula) : Option (Formula × Int) :=
 ((vG (⟨2, 0, (⟨zS, zS⟩ : jq), [a0, d]⟩ : Formula)).bind fun b => some (b.1, b.2))
def sQ  : List Formula → Int → Int → Int → jq → (List Formula) → Option (Int × Int × Int × jq × (List Formula))
 | [], g, h, i, j, d => some (g, h, i, j, d)
 | m :: l, g, h, i, j, d => (if (g != 0) then some (g, h, i, j, d) else ((xC (⟨h, i, j, d⟩ : Formula) m).bind fun b => (sQ l b.2 ((b.1).Op) ((b.1).K) ((b.1).jq) ((b.1).Kids))))
def vz (a0 : List Formula) : Option (Formula × Int) :=
 ((lB a0 0).bind fun x6 => ((vG x6).bind fun b => ((qW (decide (0 ≤ 1) && decide (1 ≤ (a0.length : Int)))).bind fun _ => ((sQ (a0.drop (Int.toNat 1)) b.2 ((b.1).Op) ((b.1).K) ((b.1).jq) ((b.1).Kids)).bind fun (d, h, i, j, g) => (if (d != 0) then some ((⟨0, 0, (⟨zS, zS⟩ : jq), []⟩ : Formula), d) else some ((⟨h, i, j, g⟩ : Formula), 0))))))
def tI  : List nI → (List Formula) → Option (Formula × Int)
 | [], b => ((vz b).bind fun d => some (d.1, d.2))
 | i :: g, b => ((lX 72 b ([i.jx])).bind fun h => (tI g h))
def Ao (a0 : kx) (g : jr) : Option (Formula × Int) :=
 ((yk a0 g).bind fun b => (if (!b.2) then some ((⟨0, 0, (⟨zS, zS⟩ : jq), []⟩ : Formula), 42) else ((xE a0 g).bind fun d => tI d ([(b.1).jx]))))
def oS (rec : Formula → (jq → Option Bool) → Option Bool) (f1 : jq → Option Bool) (a0 : Formula) : List Formula → Int → Option Bool
 | [], b => (if (a0.Op == 2) then some (b == (a0.Kids.length : Int)) else (if (a0.Op == 3) then some (decide (b > 0)) else some (decide (b ≥ a0.K))))
 | h :: d, b => ((rec h f1).bind fun g => (if g then (oS rec f1 a0 d (wi0 .i64 (b + 1))) else (oS rec f1 a0 d b)))
def uZ (rec : Formula → (jq → Option Bool) → Option Bool) (a0 : Formula) (f1 : jq → Option Bool) : Option Bool :=
 (if (a0.Op == 1) then ((f1 a0.jq).bind fun b => some b) else oS rec f1 a0 a0.Kids 0)
def pp : Nat → Formula → (jq → Option Bool) → Option Bool
 | 0 => fun _ _ => none
 | n + 1 => uZ (pp n)
def uH (a0 : Formula) (f1 : jq → Option Bool) : Option Bool :=
 ((qG a0).bind fun g => ((if g then ((pp jY a0 f1).bind fun b => some b) else some false).bind fun d => some d))
def pq (a0 : jq) (i : List (jq × (List (ByteArray × Bool)))) (b : List jr) (h : List (jq × (List jr))) (d : List (ByteArray × (List jr))) (g : List jJ) (j : Int) (c1 : ByteArray) : Option Bool :=
 ((tf i b h d g j a0 c1).bind fun l => some l)
def qC (a0 : kx) (g : ((List (jq × (List (ByteArray × Bool)))) × (List jr) × (List (jq × (List jr))) × (List (ByteArray × (List jr))) × (List jJ) × Int × ByteArray)) : List lD → (List jr) → Option (List jr)
 | [], b => ((yt b).bind fun l => some l)
 | h :: d, b => ((Ao a0 h.Signed.jr).bind fun r417 => ((if (r417.2 == 0) then ((uH r417.1 (fun (x : jq) => pq x g.1 g.2.1 g.2.2.1 g.2.2.2.1 g.2.2.2.2.1 g.2.2.2.2.2.1 g.2.2.2.2.2.2)).bind fun j => some j) else some false).bind fun m => (if m then ((lX 136 b ([h.Signed.jr])).bind fun i => (qC a0 g d i)) else (qC a0 g d b))))
def qv (a0 : kx) (b : List jr) (a2 : ByteArray) : Option (List jr) :=
 ((uE b a2).bind fun d => qC a0 d a0.jF ([]))
def oX (a0 m : kx) : Nat → (List jr) → (List jr) → Int → Option ((List jr) × (List jr) × Int)
 | 0, _, _, _ => none
 | j + 1, b, d, i => ((qv a0 d m.Name).bind fun g => ((qv m b a0.Name).bind fun h => ((if ((g.length : Int) == (b.length : Int)) then some ((h.length : Int) == (d.length : Int)) else some false).bind fun l => (if l then some (b, d, i) else (oX a0 m j g h (wi0 .i64 (i + 1)))))))
def ue (a0 b : kx) : Option ((List jr) × (List jr) × Int) :=
 oX a0 b jY ([]) ([]) 0
def rh (rec : (List Formula) → Option Int) : List Formula → Int → Option Int
 | [], d => some d
 | b :: h, d => ((rec b.Kids).bind fun g => (rh rec h (wi0 .i64 (d + (wi0 .i64 ((wi0 .i64 (1 + (wi0 .i64 (Int.tdiv (wi0 .i64 ((b.jq.js.size : Int) + (b.jq.Word.size : Int))) 16)))) + g))))))
def vX (rec : (List Formula) → Option Int) (a0 : List Formula) : Option Int :=
 rh rec a0 0
def oy : Nat → (List Formula) → Option Int
 | 0 => fun _ => none
 | n + 1 => vX (oy n)
def rl  : List nI → Int → Option Int
 | [], d => some d
 | b :: g, d => ((oy jY ([b.jx])).bind fun h => ((vk b.lj).bind fun i => (rl g (wi0 .i64 (d + (wi0 .i64 ((wi0 .i64 ((wi0 .i64 ((b.jq.js.size : Int) + (b.jq.Word.size : Int))) + (wi0 .i64 (20 * h)))) + i)))))))
def rc (a0 : kx) : List lD → Int → Option Int
 | [], b => ((rl a0.jP b).bind fun g => some g)
 | d :: h, b => ((((tL ([]) ([d.Signed])).bind fun l => some (l, ([d.jx]))) : Option (Int × (List Formula))).bind fun (m, i) => ((oy jY i).bind fun j => (rc a0 h (wi0 .i64 (b + (wi0 .i64 (m + (wi0 .i64 (20 * j)))))))))
def vw (a0 : kx) : Option Int :=
 rc a0 a0.jF (a0.Name.size : Int)
def xH (a0 : pU) : Option Int :=
 ((((vw a0.js).bind fun h => ((vw a0.Client).bind fun i => some ((wi0 .i64 (h + i)), ([a0.Formula])))) : Option (Int × (List Formula))).bind fun (j, b) => ((oy jY b).bind fun d => ((tL a0.Keys ([])).bind fun g => some (wi0 .i64 ((wi0 .i64 (j + (wi0 .i64 (20 * d)))) + g)))))
def pQ (i : ByteArray) : List jJ → (List jq) → Option (List jq)
 | [], b => some b
 | h :: d, b => (if (kP h.kz i) then ((lX 32 b ([h.jq])).bind fun g => (pQ i d g)) else (pQ i d b))
def sc (a0 : List jJ) (b : ByteArray) : Option (List jq) :=
 pQ b a0 ([])
def rk (rec : Formula → Option Int) : List Formula → Int → Option Int
 | [], b => some b
 | h :: g, b => ((rec h).bind fun d => (rk rec g (wi0 .i64 (b + d))))
def wi (rec : Formula → Option Int) (a0 : Formula) : Option Int :=
 rk rec a0.Kids 1
def qK : Nat → Formula → Option Int
 | 0 => fun _ => none
 | n + 1 => wi (qK n)
def rT (rec : Formula → Option Int) : List Formula → Int → Option Int
 | [], b => some (wi0 .i64 (b + 1))
 | h :: g, b => ((rec h).bind fun d => (rT rec g (if d > b then d else b)))
def xa (rec : Formula → Option Int) (a0 : Formula) : Option Int :=
 rT rec a0.Kids 0
def rJ : Nat → Formula → Option Int
 | 0 => fun _ => none
 | n + 1 => xa (rJ n)
def sb (rec : Formula → Option Bool) : List Formula → Option Bool
 | [] => some true
 | g :: b => ((rec g).bind fun d => (if (!d) then some false else (sb rec b)))
def wW (rec : Formula → Option Bool) (a0 : Formula) : Option Bool :=
 (if (a0.Op == 1) then ((si a0.jq).bind fun q => ((if q then some ((a0.Kids.length : Int) == 0) else some false).bind fun i => ((if i then some (a0.K == 0) else some false).bind fun j => some j))) else ((if (decide (a0.Op < 1)) then some true else some (decide (a0.Op > 4))).bind fun l => ((if l then some true else some (!(jR a0.jq (⟨zS, zS⟩ : jq)))).bind fun m => ((if m then some true else some (decide ((a0.Kids.length : Int) > 8))).bind fun n => (if n then some false else ((if (decide (a0.Op < 4)) then some (a0.K != 0) else some false).bind fun p => ((if p then some true else ((if (a0.Op == 4) then ((if (decide ((a0.Kids.length : Int) < 1)) then some true else some (decide (a0.K < 0))).bind fun g => ((if g then some true else some (decide (a0.K > (a0.Kids.length : Int)))).bind fun h => some h)) else some false).bind fun d => some d)).bind fun b => (if b then some false else sb rec a0.Kids))))))))
def rR : Nat → Formula → Option Bool
 | 0 => fun _ => none
 | n + 1 => wW (rR n)
def pJ (a0 : Formula) : Option Bool :=
 ((qK jY a0).bind fun i => ((if (decide (i ≤ 64)) then ((rJ jY a0).bind fun d => some (decide (d ≤ 6))) else some false).bind fun g => ((if g then ((rR jY a0).bind fun b => some b) else some false).bind fun h => some h)))
def uP (a0 : Formula) (b : Int) : Option Bool :=
 ((if (a0.Op == b) then some ((a0.Kids.length : Int) == 0) else some false).bind fun x6 => some x6)
def rr (rec : Formula → Option ByteArray) : List Formula → ByteArray → Option ByteArray
 | [], b => some b
 | i :: h, b => ((rec i).bind fun d => ((pR b d).bind fun g => (rr rec h g)))
def wc (rec : Formula → Option ByteArray) (a0 : Formula) : Option ByteArray :=
 ((qc a0.Op).bind fun h => (if (a0.Op == 1) then ((sk a0.jq).bind fun m => ((pR h m).bind fun i => some i)) else (((if (a0.Op == 4) then ((qc a0.K).bind fun b => ((pR h b).bind fun d => some d)) else some h) : Option ByteArray).bind fun l => ((qc (a0.Kids.length : Int)).bind fun g => ((pR l g).bind fun j => rr rec a0.Kids j)))))
def oV : Nat → Formula → Option ByteArray
 | 0 => fun _ => none
 | n + 1 => wc (oV n)
def vM (a0 l : Formula) : Option Int :=
 ((((pJ a0).bind fun i => (if i then ((oV jY a0).bind fun j => some j) else some zS)) : Option ByteArray).bind fun b => ((((pJ l).bind fun g => (if g then ((oV jY l).bind fun h => some h) else some zS)) : Option ByteArray).bind fun d => (if (pH b d) then some (-1) else (if (!(pH b d || kP b d)) then some 1 else some 0))))
def rY (i : Formula) (rec : Formula → Formula → Option Bool) : List Formula → Nat → Option Bool
 | [], _ => some true
 | g :: b, i182 => ((lB i.Kids (i182 : Int)).bind fun h => ((rec g h).bind fun d => (if (!d) then some false else (rY i rec b (i182 + 1)))))
def wY (rec : Formula → Formula → Option Bool) (a0 b : Formula) : Option Bool :=
 ((if (a0.Op != b.Op) then some true else some (a0.K != b.K)).bind fun d => ((if d then some true else some (!(jR a0.jq b.jq))).bind fun g => ((if g then some true else some ((a0.Kids.length : Int) != (b.Kids.length : Int))).bind fun h => (if h then some false else rY b rec a0.Kids 0))))
def qw : Nat → Formula → Formula → Option Bool
 | 0 => fun _ _ => none
 | n + 1 => wY (qw n)
def pg (d : List Formula) (g : Formula) : Nat → Int → Option Int
 | 0, _ => none
 | h + 1, b => ((if (decide (b > 0)) then ((lB d (wi0 .i64 (b - 1))).bind fun l => ((vM l g).bind fun i => some (decide (i > 0)))) else some false).bind fun j => (if j then (pg d g h (wi0 .i64 (b - 1))) else some b))
def mB (r : Bool) : List Formula → (List Formula) → Option (List Formula)
 | [], b => some b
 | g :: h, b => ((pg b g jY (b.length : Int)).bind fun d => ((if r then some (decide (d > 0)) else some false).bind fun n => ((if n then ((lB b (wi0 .i64 (d - 1))).bind fun q => ((qw jY q g).bind fun m => some m)) else some false).bind fun p => (if p then (mB r h b) else ((qW (decide (0 ≤ d) && decide (d ≤ (b.length : Int)))).bind fun _ => ((lX 72 ([]) (b.take (Int.toNat d))).bind fun i => ((lX 72 i ([g])).bind fun j => ((qW (decide (0 ≤ d) && decide (d ≤ (b.length : Int)))).bind fun _ => ((lX 72 j (b.drop (Int.toNat d))).bind fun l => (mB r h l))))))))))
def uz (a0 : List Formula) (b : Bool) : Option (List Formula) :=
 mB b a0 ([])
def oP (h : Int) (a0 : kW) : List Formula → Option ((Formula × kW) ⊕ Unit)
 | [] => some (Sum.inr ())
 | g :: b => ((uP g (wi0 .i64 (5 - h))).bind fun d => (if d then some (Sum.inl ((⟨(wi0 .i64 (5 - h)), 0, (⟨zS, zS⟩ : jq), []⟩ : Formula), a0)) else (oP h a0 b)))
def mW (j : Int) (a0 : kW) : List Formula → (List Formula) → Option (Formula × kW)
 | [], b => ((oP j a0 b).bind fun s => match s with | .inl n => some n | .inr _ => ((uz b true).bind fun d => ((if a0.OU then some true else some (decide ((d.length : Int) > 64))).bind fun i => (if ((d.length : Int) == 1) then ((lB d 0).bind fun q => some (q, (⟨i⟩ : kW))) else some ((⟨j, 0, (⟨zS, zS⟩ : jq), d⟩ : Formula), (⟨i⟩ : kW))))))
 | g :: h, b => (if (g.Op == j) then ((lX 72 b g.Kids).bind fun l => (mW j a0 h l)) else ((uP g (wi0 .i64 (5 - j))).bind fun p => (if p then some ((⟨(wi0 .i64 (5 - j)), 0, (⟨zS, zS⟩ : jq), []⟩ : Formula), a0) else ((lX 72 b ([g])).bind fun m => (mW j a0 h m)))))
def oK (a0 : kW) (b : Int) (a2 : List Formula) : Option (Formula × kW) :=
 mW b a0 a2 ([])
def mP  : List Formula → Int → (List Formula) → Option (Int × (List Formula))
 | [], d, b => some (d, b)
 | h :: g, d, b => ((uP h 2).bind fun j => (if j then (mP g (wi0 .i64 (d - 1)) b) else ((uP h 3).bind fun l => (if (!l) then ((lX 72 b ([h])).bind fun i => (mP g d i)) else (mP g d b)))))
def nl (rec : kW → Formula → Option (Formula × kW)) (s : Formula) : List Formula → (List Formula) → kW → Option (Formula × kW)
 | [], h, b => (if (decide (s.Op < 4)) then ((oK b s.Op h).bind fun j => some (j.1, j.2)) else ((mP h s.K ([])).bind fun (g, d) => (if (decide (g ≤ 0)) then some ((⟨2, 0, (⟨zS, zS⟩ : jq), []⟩ : Formula), b) else (if (decide (g > (d.length : Int))) then some ((⟨3, 0, (⟨zS, zS⟩ : jq), []⟩ : Formula), b) else (if (g == (d.length : Int)) then ((oK b 2 d).bind fun l => some (l.1, l.2)) else (if (g == 1) then ((oK b 3 d).bind fun m => some (m.1, m.2)) else ((uz d false).bind fun q => some ((⟨4, g, (⟨zS, zS⟩ : jq), q⟩ : Formula), b))))))))
 | r :: n, h, b => ((rec b r).bind fun i => ((lX 72 h ([i.1])).bind fun p => (nl rec s n p i.2)))
def rK (rec : kW → Formula → Option (Formula × kW)) (a0 : kW) (b : Formula) : Option (Formula × kW) :=
 (if (b.Op == 1) then some (b, a0) else nl rec b b.Kids ([]) a0)
def mV : Nat → kW → Formula → Option (Formula × kW)
 | 0 => fun _ _ => none
 | n + 1 => rK (mV n)
def wz (a0 : Formula) : Option (Formula × Int) :=
 ((pJ a0).bind fun h => (if (!h) then some ((⟨0, 0, (⟨zS, zS⟩ : jq), []⟩ : Formula), 11) else ((mV jY (⟨false⟩ : kW) a0).bind fun b => ((if b.2.OU then some true else ((pJ b.1).bind fun d => some (!d))).bind fun g => (if g then some ((⟨0, 0, (⟨zS, zS⟩ : jq), []⟩ : Formula), 12) else some (b.1, 0))))))
def se (q : jr) : List nI → Int → Int → Int → jq → (List Formula) → Option (Int × Int × Int × jq × (List Formula))
 | [], g, h, i, j, d => some (g, h, i, j, d)
 | m :: l, g, h, i, j, d => ((if (g == 0) then ((uh m.lj q).bind fun n => some n) else some false).bind fun p => (if p then ((wz (⟨2, 0, (⟨zS, zS⟩ : jq), [(⟨h, i, j, d⟩ : Formula), m.jx]⟩ : Formula)).bind fun b => (se q l b.2 ((b.1).Op) ((b.1).K) ((b.1).jq) ((b.1).Kids))) else (se q l g h i j d)))
def vt (n : jr) (a0 : kx) : List lD → Option (Formula × Int)
 | [] => some ((⟨0, 0, (⟨zS, zS⟩ : jq), []⟩ : Formula), 42)
 | d :: h => (if (!(lu d.Signed.jr n)) then (vt n a0 h) else ((wz d.jx).bind fun b => ((se n a0.jP b.2 ((b.1).Op) ((b.1).K) ((b.1).jq) ((b.1).Kids)).bind fun (g, j, l, m, i) => (if (g != 0) then some ((⟨0, 0, (⟨zS, zS⟩ : jq), []⟩ : Formula), g) else some ((⟨j, l, m, i⟩ : Formula), 0)))))
def Aq (a0 : kx) (b : jr) : Option (Formula × Int) :=
 vt b a0 a0.jF
def wD (g : jq) : List jq → Option Bool
 | [] => some false
 | d :: b => (if (jR d g) then some true else (wD g b))
def zl (a0 : List jq) (b : jq) : Option Bool :=
 wD b a0
def qI (rec : Formula → (List jq) → Option Bool) (h : List jq) (a0 : Formula) : List Formula → Int → Option Bool
 | [], b => (if (a0.Op == 2) then some (b == (a0.Kids.length : Int)) else (if (a0.Op == 3) then some (decide (b > 0)) else some (decide (b ≥ a0.K))))
 | i :: d, b => ((rec i h).bind fun g => (if g then (qI rec h a0 d (wi0 .i64 (b + 1))) else (qI rec h a0 d b)))
def wZ (rec : Formula → (List jq) → Option Bool) (a0 : Formula) (b : List jq) : Option Bool :=
 (if (a0.Op == 1) then ((zl b a0.jq).bind fun d => some d) else qI rec b a0 a0.Kids 0)
def qo : Nat → Formula → (List jq) → Option Bool
 | 0 => fun _ _ => none
 | n + 1 => wZ (qo n)
def qF (a0 : kx) (i : List jq) : List lD → (List jr) → Option (List jr)
 | [], b => ((xr b).bind fun m => some m)
 | h :: d, b => ((Aq a0 h.Signed.jr).bind fun g => ((if (g.2 == 0) then ((qo jY g.1 i).bind fun l => some l) else some false).bind fun n => (if n then ((lX 136 b ([h.Signed.jr])).bind fun j => (qF a0 i d j)) else (qF a0 i d b))))
def uO (a0 : kx) (d : List jr) (a2 : ByteArray) : Option (List jr) :=
 ((uW d).bind fun g => ((sc g a2).bind fun b => qF a0 b a0.jF ([])))
def so (a0 n : kx) : Nat → (List jr) → (List jr) → Int → Option ((List jr) × (List jr) × Int)
 | 0, _, _, _ => none
 | n296 + 1, b, d, i => ((uO a0 d n.Name).bind fun g => ((uO n b a0.Name).bind fun h => ((uB g b).bind fun j => ((if j then ((uB h d).bind fun l => some l) else some false).bind fun m => (if m then some (b, d, i) else (so a0 n n296 g h (wi0 .i64 (i + 1))))))))
def Ah (a0 b : kx) : Option ((List jr) × (List jr) × Int) :=
 so a0 b jY ([]) ([]) 0
def zO (a0 g : kx) : Option ((List jr) × (List (jq × (List (ByteArray × Bool)))) × (List jr) × (List (jq × (List jr))) × (List (ByteArray × (List jr))) × (List jJ) × Int × ByteArray) :=
 ((ue a0 g).bind fun d => ((wB d.2.1).bind fun b => some (d.2.1, b.1, b.2.1, b.2.2.1, b.2.2.2.1, b.2.2.2.2.1, b.2.2.2.2.2, g.Name)))
def vd (a0 : jq) (i : List (jq × (List (ByteArray × Bool)))) (b : List jr) (h : List (jq × (List jr))) (d : List (ByteArray × (List jr))) (g : List jJ) (l : Int) (j : ByteArray) (m : List lD) (n : List nI) : Option Bool :=
 ((tf i b h d g l a0 j).bind fun p => some p)
def tZ (a0 d : kx) (a2 : Formula) : Option Bool :=
 ((zO a0 d).bind fun b => ((uH a2 (fun (x : jq) => vd x b.2.1 b.2.2.1 b.2.2.2.1 b.2.2.2.2.1 b.2.2.2.2.2.1 b.2.2.2.2.2.2.1 b.2.2.2.2.2.2.2 d.jF d.jP)).bind fun g => some g))
def zT (a0 h : kx) : Option (List jq) :=
 ((Ah a0 h).bind fun b => ((uW b.2.1).bind fun d => ((sc d h.Name).bind fun g => some g)))
def wG (a0 i : kx) (a2 : Formula) : Option Bool :=
 ((pJ a2).bind fun h => ((if h then ((zT a0 i).bind fun b => ((qo jY a2 b).bind fun d => some d)) else some false).bind fun g => some g))
def pK (a0 : List jr) (f1 : jr → Option Bool) : Option Bool :=
 ((pb a0 f1).bind fun b => some (decide (b ≥ 0)))
structure jV where
 Kind : Int
 End : Int
 At : Int
def jN (x : jV) : List Value := [.int .i64 x.Kind, .int .i64 x.End, .int .i64 x.At]
def yy (x y : jV) : Bool := (x.Kind == y.Kind) && ((x.End == y.End) && ((x.At == y.At) && true))
theorem HD {x y : jV} : yy x y = true ↔ x = y := by
 cases x; cases y; simp [yy, lW]
theorem lh (x : jV) : (jN x).length = 3 := rfl
theorem oY (x : jV) : ∀ u ∈ jN x, u.oneCell' = true := by
 intro u hu
 simp only [jN, aQ, cW, eX] at hu
 rcases hu with rfl | rfl | rfl <;> rfl
def tH  : List lD → (List jr) → Option (List jr)
 | [], b => some b
 | h :: g, b => ((lX 136 b ([h.Signed.jr])).bind fun d => (tH g d))
def yF (a0 : kx) : Option (List jr) :=
 tH a0.jF ([])
def pj (g : List jr) (a0 : Int) (a3 : List jr) : List lD → Nat → (List jV) → Option (List jV)
 | [], _, b => some b
 | h :: d, i208, b => ((pM g h.Signed.jr).bind fun l => (if (!l) then ((lX 24 b ([(⟨2, a0, (i208 : Int)⟩ : jV)])).bind fun i => (pj g a0 a3 d (i208 + 1) i)) else ((pM a3 h.Signed.jr).bind fun m => (if (!m) then ((lX 24 b ([(⟨1, a0, (i208 : Int)⟩ : jV)])).bind fun j => (pj g a0 a3 d (i208 + 1) j)) else (pj g a0 a3 d (i208 + 1) b)))))
def yA (a0 : Int) (g a2 : kx) (a3 : List jr) : Option (List jV) :=
 ((yF a2).bind fun b => ((qv g b a2.Name).bind fun d => pj d a0 a3 g.jF 0 ([])))
def wA (a0 : jr) (b : List jr) : Option Bool :=
 ((pM b a0).bind fun d => some d)
def rj (j : List jr) (a0 : Int) : List nI → Nat → (List jV) → Option (List jV)
 | [], _, b => some b
 | i :: d, i124, b => ((pK i.lj (fun (x : jr) => wA x j)).bind fun h => (if (!h) then ((lX 24 b ([(⟨3, a0, (i124 : Int)⟩ : jV)])).bind fun g => (rj j a0 d (i124 + 1) g)) else (rj j a0 d (i124 + 1) b)))
def zp (a0 : Int) (b : kx) : Option (List jV) :=
 ((yF b).bind fun d => rj d a0 b.jP 0 ([]))
def yC (a0 : pU) : Option (List jV) :=
 ((vG a0.Formula).bind fun d => ((if (d.2 == 0) then (tU.bind fun g => ((nB jY d.1 g).bind fun h => some h)) else some false).bind fun i => (if i then some [(⟨4, 0, 0⟩ : jV)] else ((tZ a0.js a0.Client a0.Formula).bind fun b => (if (!b) then some [(⟨5, 0, 0⟩ : jV)] else some [])))))
def qi (d : Int) : Option (List jV) :=
 (if (decide (d < 0)) then none else (((if (decide ((wi0 .i64 (d - (wi0 .i64 (0 - 0)))) > 0)) then ((G7 24 (⟨0, 0, 0⟩ : jV) (wi0 .i64 (d - (wi0 .i64 (0 - 0))))).bind fun b => ((qW (decide (0 ≤ 0) && decide (0 ≤ (b.length : Int)))).bind fun _ => some (b.take (Int.toNat 0)))) else some ([])) : Option (List jV)).bind fun g => some g))
def nC  : List (List jV) → (List jV) → Option (List jV)
 | [], b => some b
 | h :: d, b => ((lX 24 b h).bind fun g => (nC d g))
def nA (a0 : List (List jV)) : List (List jV) → Int → Option (List jV)
 | [], b => ((qi b).bind fun i => ((nC a0 i).bind fun d => some d))
 | g :: h, b => (if (decide ((wi0 .i64 (b + (g.length : Int))) < 0)) then none else (nA a0 h (wi0 .i64 (b + (g.length : Int)))))
def qQ (a0 : List (List jV)) : Option (List jV) :=
 nA a0 a0 0
def uj (a0 : pU) : Option (List jV) :=
 ((ue a0.js a0.Client).bind fun b => ((yA 0 a0.js a0.Client b.1).bind fun d => ((zp 0 a0.js).bind fun g => ((yA 1 a0.Client a0.js b.2.1).bind fun h => ((zp 1 a0.Client).bind fun i => ((yC a0).bind fun j => ((qQ ([d, g, h, i, j])).bind fun l => some l)))))))
def sR  : List jV → ByteArray → Option ByteArray
 | [], b => ((Q1 b).bind fun m => some m)
 | d :: g, b => ((zr d.Kind).bind fun h => ((pR h (⟨#[32]⟩ : ByteArray)).bind fun n => ((zr d.End).bind fun i => ((pR n i).bind fun p => ((pR p (⟨#[32]⟩ : ByteArray)).bind fun q => ((zr d.At).bind fun j => ((pR q j).bind fun r => ((pR r (⟨#[10]⟩ : ByteArray)).bind fun s => ((F7 b s).bind fun l => (sR g l))))))))))
def xu (a0 : List jV) : Option ByteArray :=
 sR a0 zS
def qz (g : Int) : List jV → Int → Option Int
 | [], b => some b
 | h :: d, b => (if (h.Kind == g) then (qz g d (wi0 .i64 (b + 1))) else (qz g d b))
def uN (a0 : List jV) (b : Int) : Option Int :=
 qz b a0 0
def vu  : Option Bool :=
 ((uj (⟨(⟨(⟨#[111, 119, 110]⟩ : ByteArray), [], []⟩ : kx), (⟨(⟨#[99, 108, 105]⟩ : ByteArray), [], []⟩ : kx), (⟨2, 0, (⟨zS, zS⟩ : jq), []⟩ : Formula), 0, (⟨0, 0⟩ : yQ), 0, 0, 0, []⟩ : pU)).bind fun h => ((uj (⟨(⟨(⟨#[111, 119, 110]⟩ : ByteArray), [], []⟩ : kx), (⟨(⟨#[99, 108, 105]⟩ : ByteArray), [], []⟩ : kx), (⟨3, 0, (⟨zS, zS⟩ : jq), []⟩ : Formula), 0, (⟨0, 0⟩ : yQ), 0, 0, 0, []⟩ : pU)).bind fun g => ((if ((h.length : Int) == 1) then ((lB h 0).bind fun j => some (j.Kind == 4)) else some false).bind fun m => ((if m then ((xu h).bind fun d => some (kP d (⟨#[52, 32, 48, 32, 48, 10]⟩ : ByteArray))) else some false).bind fun n => ((if n then some ((g.length : Int) == 1) else some false).bind fun p => ((if p then ((lB g 0).bind fun i => some (i.Kind == 5)) else some false).bind fun q => ((if q then ((uN h 4).bind fun b => some (b == 1)) else some false).bind fun r => ((if r then ((uN h 5).bind fun l => some (l == 0)) else some false).bind fun s => some s))))))))
def sT  : List lD → (List jr) → Option (List jr)
 | [], b => some b
 | h :: g, b => ((lX 136 b ([h.Signed.jr])).bind fun d => (sT g d))
def xn (a0 : kx) : Option (List jr) :=
 sT a0.jF ([])
def sU (l : kx) : List jr → Bool → Option Bool
 | [], b => some b
 | i :: d, b => ((if b then ((xn l).bind fun g => ((uh g i).bind fun h => some (!h))) else some false).bind fun j => (sU l d j))
def rn (l : kx) (a0 : Int) : List nI → Nat → (List jV) → Option (List jV)
 | [], _, b => some b
 | i :: g, d, b => ((sU l i.lj true).bind fun j => (if j then ((lX 24 b ([(⟨3, a0, (d : Int)⟩ : jV)])).bind fun h => (rn l a0 g (d + 1) h)) else (rn l a0 g (d + 1) b)))
def pX (g : List jr) (a0 : Int) (a3 : List jr) (j : kx) : List lD → Nat → (List jV) → Option (List jV)
 | [], _, b => ((rn j a0 j.jP 0 b).bind fun i => some i)
 | h :: d, i210, b => ((uh g h.Signed.jr).bind fun n => (if (!n) then ((lX 24 b ([(⟨2, a0, (i210 : Int)⟩ : jV)])).bind fun l => (pX g a0 a3 j d (i210 + 1) l)) else ((uh a3 h.Signed.jr).bind fun p => (if (!p) then ((lX 24 b ([(⟨1, a0, (i210 : Int)⟩ : jV)])).bind fun m => (pX g a0 a3 j d (i210 + 1) m)) else (pX g a0 a3 j d (i210 + 1) b)))))
def zi (a0 : Int) (b a2 : kx) (a3 : List jr) : Option (List jV) :=
 ((xn a2).bind fun d => ((uO b d a2.Name).bind fun g => pX g a0 a3 b b.jF 0 ([])))
def vY (a0 : pU) : Option (List jV) :=
 ((Ah a0.js a0.Client).bind fun j => ((zi 0 a0.js a0.Client j.1).bind fun n => ((zi 1 a0.Client a0.js j.2.1).bind fun p => ((lX 24 n p).bind fun d => ((wz a0.Formula).bind fun b => ((if (b.2 == 0) then some (((b.1).Op) == 2) else some false).bind fun l => ((if l then some ((((b.1).Kids).length : Int) == 0) else some false).bind fun m => (if m then ((lX 24 d ([(⟨4, 0, 0⟩ : jV)])).bind fun g => some g) else ((wG a0.js a0.Client a0.Formula).bind fun i => (if (!i) then ((lX 24 d ([(⟨5, 0, 0⟩ : jV)])).bind fun h => some h) else some d))))))))))
def rU  : List jV → ByteArray → Option ByteArray
 | [], d => some d
 | b :: g, d => ((zr b.Kind).bind fun h => ((pR h (⟨#[32]⟩ : ByteArray)).bind fun l => ((zr b.End).bind fun i => ((pR l i).bind fun m => ((pR m (⟨#[32]⟩ : ByteArray)).bind fun n => ((zr b.At).bind fun j => ((pR n j).bind fun p => ((pR p (⟨#[10]⟩ : ByteArray)).bind fun q => ((pR d q).bind fun r => (rU g r))))))))))
def AV (a0 : List jV) : Option ByteArray :=
 rU a0 zS
def oh (h g : List jV) : List jV → Nat → Int → Option Bool
 | [], _, b => ((xu g).bind fun j => ((AV h).bind fun l => ((if (kP j l) then ((uN g 2).bind fun m => some (m == b)) else some false).bind fun p => some p)))
 | i :: d, i188, b => ((lB h (i188 : Int)).bind fun n => (if (!(yy i n)) then some false else (if (i.Kind == 2) then (oh h g d (i188 + 1) (wi0 .i64 (b + 1))) else (oh h g d (i188 + 1) b))))
def uq (a0 : pU) : Option Bool :=
 (vu.bind fun g => (if (!g) then some false else ((xH a0).bind fun h => (if (decide (h > 6000)) then some true else ((uj a0).bind fun b => ((vY a0).bind fun d => (if ((b.length : Int) != (d.length : Int)) then some false else oh d b b 0 0)))))))
end
end Go.Proofs.YtjjjihkifgdhgaaGreatDoor
