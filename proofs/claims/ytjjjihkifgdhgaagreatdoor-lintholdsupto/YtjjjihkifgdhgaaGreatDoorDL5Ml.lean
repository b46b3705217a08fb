/- a part of a proof of LintHolds -/
import Derived.Test.YtjjjihkifgdhgaaGreatDoorRtVl
import Derived.Lib.ItoaNum
import Derived.Recover
import Derived.LaidEqlPtr
import Derived.RangeFuncRecord
import Derived.Lib.AppendStr
import Derived.Lib.Builder
import Derived.Lib.UnsafeStr
import Derived.Shelf.SlSortCmp.NoneTotal
import Derived.Shelf.SortM.Plain
import Derived.Shelf.SortM.SortNone
import Derived.Shelf.SlIter.Sorted
import Derived.Shelf.SlIter.Nil
import Derived.Shelf.Strconv.Itoa3
import Derived.Test.YtjjjihkifgdhgaaGreatDoorProg
import Derived.KernelRfl
set_option linter.all false
namespace Go.Proofs.YtjjjihkifgdhgaaGreatDoor
open Go.IntKind renaming wrap → wi0
open Go.RowKit
variable [M : Md]
section
variable {dd : Bool}
def Ah {α : Type} (R : oP α) : jN → List Value → α → Prop := fun μ vs x => ∃ ys, vs = [.agg ys.toArray] ∧ R μ ys x
def tY {α β : Type} (R : oP α) (S : oP β) : jN → List Value → α × β → Prop := fun μ vs x => ∃ ys zs, vs = [.agg ys.toArray, .agg zs.toArray] ∧ R μ ys x.1 ∧ S μ zs x.2
theorem Ah.mk {α : Type} {R : oP α} {k : Nat} {μ μ' : jN} {ys : List Value} {x : α} (b : Deep R k) (h : R μ ys x) (d : jT μ μ') : Ah R μ' [.agg ys.toArray] x := ⟨ys, rfl, b.mono _ _ _ _ d h⟩
theorem tY.mk {α β : Type} {R : oP α} {S : oP β} {k m : Nat} {μ μ' : jN} {ys zs : List Value} {x : α} {y : β} (i : Deep R k) (j : Deep S m) (h : R μ ys x) (d : S μ zs y) (b : jT μ μ') : tY R S μ' [.agg ys.toArray, .agg zs.toArray] (x, y) :=
 ⟨ys, zs, rfl, i.mono _ _ _ _ b h, j.mono _ _ _ _ b d⟩
def vW {α β : Type} (P : Program) (fv : Value) (μ : jN) (d : jN → List Value → α → Prop) (h : β → Value) (pm : α → Option β) : Prop :=
 ∃ f first b, fv = .func (.func f) first b ∧ (∀ args w, (callFunc f args).run P w = .ok (.enter f args) w) ∧ ∀ W x vs r, jT μ (hp W) → d (hp W) vs x → pm x = some r → kf false P f (first.toList ++ (vs ++ b.toList)) W (h r)
theorem vW.form {α β : Type} {P : Program} {fv : Value} {μ : jN} {d : jN → List Value → α → Prop} {i : β → Value} {pm : α → Option β} (h : vW P fv μ d i pm) : ∃ f a b, fv = .func f a b := let ⟨f, a, b, h, _⟩ := h; ⟨_, a, b, h⟩
end
section
variable {P : Program} {W : World} {E : Nat → Value} {d : Option Nat} {ty : TypeId} {pos : String} {af : Array Edge} {g : Option (Nat × Bool)} {F : Nat → Prop} {w : World} {μ μ0 : jN} {L : List (Nat × Obj)}
theorem vW.mono {α β : Type} {fv : Value} {d : jN → List Value → α → Prop} {i : β → Value} {pm : α → Option β} (h : vW P fv μ d i pm) (m : jT μ μ0) : vW P fv μ0 d i pm := by
 obtain ⟨f, first, b, h1, j, l⟩ := h
 exact ⟨f, first, b, h1, j, fun W x vs r h => l W x vs r (m.trans h)⟩
theorem xv {α β : Type} {K : Value → World → Prop} {fv : Value} {m : jN → List Value → α → Prop} {n : β → Value} {pm : α → Option β} {j : Operand} {ax : Array Operand} {ats : Array TypeId} (x : α) {vs : List Value} {r : β} (i : ST false F w W μ L) (v : vW P fv μ0 m n pm) (z : jT μ0 μ) (u : m (hp W) vs x) (y : jv E j = fv) (ha : ax.map (jv E) ++ (#[] : Array Value) = vs.toArray) (hm : pm x = some r) (h : ∀ W', ST false F w W' μ L → K (n r) W') : mD P E ⟨d, .call ⟨.value j, ax, ats⟩, ty, pos, af, g⟩ W K := by
 obtain ⟨f, first, b, rfl, p, q⟩ := v
 have l : ax.map (jv E) = vs.toArray := by simpa using ha
 refine .inr (.inr ⟨f, (first.toList ++ (vs ++ b.toList)).toArray, ?_, cW (q W x vs r (z.trans i.jx) u hm) (fun _ _ ⟨s, t⟩ => ⟨_, s, h _ (i.Fg t)⟩)⟩)
 show (do let d ← resolve (jv E) ⟨.value j, ax, ats⟩ ty; invoke d.target d.args : Sem Next).run P W = _
 simp only [resolve, y, Deferred.ofValue, bZ, dm, bM, invoke, l, p]
 congr 2
 simp
end
section
variable {dd : Bool}
variable {β : Type} {Rl : oP β} {k : Nat} {μ : jN} {v : Value} {l : List β} {e : TypeId} {B : List (Nat × Obj)}
variable {F : Nat → Prop} {w W : World} {L : List (Nat × Obj)}
variable {P : Program} {E : Nat → Value} {d : Option Nat} {ty : TypeId} {pos : String} {af : Array Edge} {g : Option (Nat × Bool)}
theorem Ie {α : Type} {enc : α → List Value} (hk : ∀ x, (enc x).length = k) (d : 0 < k) (i : ∀ x y, enc x = enc y → x = y) : ∀ {l m : List α}, (l.map enc).flatten = (m.map enc).flatten → l = m
 | [], [], _ => rfl
 | [], b :: m, h => by
  have := bA List.length h
  simp only [ez, dl, bP, bF, bL, aC, hk] at this
  omega
 | a :: l, [], h => by
  have := bA List.length h
  simp only [ez, dl, bP, bF, bL, aC, hk] at this
  omega
 | a :: l, b :: m, h => by
  simp only [bF, bL] at h
  obtain ⟨h1, j⟩ := List.append_inj h (by rw [hk, hk])
  rw [i _ _ h1, Ie hk d i j]
theorem R9 (x y : vu k) (h : tQ x = tQ y) : x = y := Subtype.ext h
theorem jL.pre {v1 : Value} {cl b : List (vu k)} (j : 0 < k) (h : jL e tQ k v cl B) (h1 : jL e tQ k v1 b B) (i : b.length ≤ cl.length) : b = cl.take b.length := by
 rcases h with ⟨rfl, rfl, rfl⟩ | ⟨t, cap, d, rfl, rfl, u, w, x, r⟩
 ·simp at i; simp [i]
 ·rcases h1 with ⟨_, _, h⟩ | ⟨g1, l, m, rfl, n, s, a2, a3, a4⟩
  ·cases h
  ·cases n
   refine Ie xP j R9 ?_
   rw [← a4]
   have hle : b.length * k ≤ cl.length * k := cN _ i
   have : d.toList.take (b.length * k) = (d.toList.take (cl.length * k)).take (b.length * k) := by rw [fZ, dB hle]
   rw [this, r]
   have p : (cl.map tQ).flatten = ((cl.take b.length).map tQ).flatten ++ ((cl.drop b.length).map tQ).flatten := by rw [← cK, ← bY, gu]
   have q : ((cl.take b.length).map tQ).flatten.length = b.length * k := by rw [oW xP, cU, dB i]
   rw [p, ← q, gi]
theorem oA.replicate {α β : Type} {Q : α → β → Prop} {a : α} {b : β} (h : Q a b) : ∀ n, oA Q (List.replicate n a) (List.replicate n b)
 | 0 => .nil
 | n + 1 => .cons h (oA.replicate h n)
theorem oA.R7 {α β : Type} {Q : α → β → Prop} {l : List α} {m : List β} (h : oA Q l m) {a : α} {b : β} (d : Q a b) (i : Nat) : oA Q (nO l i a) (nO m i b) := by
 unfold nO
 rw [h.length]
 exact (h.take i).append (oA.replicate d _)
theorem Ff {t e' : TypeId} {x ih : Operand} {y : IntKind} {i : Int} (s : P.underlying t = some (.slice e')) (he : ∀ w, (sizeOf e').run P w = .ok k w) (u : jv E x = v) (q : jv E ih = .int y i) (h : kk e Rl k μ v l B) (m : 0 ≤ i) (r : i ≤ l.length) :
  ∃ b, kk e Rl k μ b (l.take i.toNat) B ∧ ∀ W, lu P E ⟨d, .slice t x none (some ih) none, ty, pos, af, g⟩ W b W := by
 obtain ⟨cl, h1, j⟩ := h
 obtain ⟨b, n, p⟩ := Av (d := d) (ty := ty) (pos := pos) (af := af) (g := g) s he u q h1 xP m (by rw [j.length]; exact r)
 exact ⟨b, ⟨_, n, j.take _⟩, p⟩
theorem zK {t e' : TypeId} {x b : Operand} {s : IntKind} {i : Int} (q : P.underlying t = some (.slice e')) (he : ∀ w, (sizeOf e').run P w = .ok k w) (r : jv E x = v) (n : jv E b = .int s i) (h : kk e Rl k μ v l B) (j : 0 ≤ i) (p : i ≤ l.length) :
  ∃ u, zo k v i.toNat u ∧ ∀ W, lu P E ⟨d, .slice t x (some b) none none, ty, pos, af, g⟩ W u W := by
 obtain ⟨cl, h1, m⟩ := h
 exact yl q he r n h1 j (by rw [m.length]; exact p)
theorem Kw {t e' : TypeId} {x : Operand} {u : Value} {i : Nat} (j : P.underlying t = some (.slice e')) (m : jv E x = u) (hu : zo k v i u) (h : kk e Rl k μ v l B) : lu P E ⟨d, .call ⟨.builtin .len, #[x], #[t]⟩, ty, pos, af, g⟩ W (.int .i64 ((l.length - i : Nat) : Int)) W := by
 obtain ⟨cl, h1, b⟩ := h
 rw [← b.length]
 exact G0 j m hu h1
theorem zW {t e' : TypeId} {x m : Operand} {L : IntKind} {i : Int} {x0 : β} {u : Value} {o : Nat} {A : List Value → Prop} (z : ∀ {ys}, Rl μ ys x0 → A ys) (I : P.underlying t = some (.slice e')) (he : ∀ w, (sizeOf e').run P w = .ok k w) (J : jv E x = u) (s : jv E m = .int L i) (h : kk e Rl k μ v l B) (hu : zo k v o u) (n : 0 ≤ i) (y : (l.drop o)[i.toNat]? = some x0) :
  ∃ p, (∃ ys, A ys ∧ At (Bf B) p ys ∧ yy B k p (o + i.toNat)) ∧ ∀ W, lu P E ⟨d, .indexAddr t x m, ty, pos, af, g⟩ W p W := by
 obtain ⟨cl, h1, q⟩ := h
 obtain ⟨c, j, G⟩ := (q.drop o).get y
 obtain ⟨p, b, r⟩ := yx (d := d) (ty := ty) (pos := pos) (af := af) (g := g) I he J s h1 hu n j
 exact ⟨p, ⟨c.1, z G, b.at h1 xP (Aa j), b⟩, r⟩
theorem CL {K : Value → World → Prop} {z : β} {zs : List Value} {Y : List (Nat × Obj)} {t e' : TypeId} {x : Operand} {u m : Value} {i : Nat} (q : Deep Rl k) (j : ST dd F w W μ (B ++ Y)) (h : kk e Rl k μ v l B) (b : Rl μ zs z) (y : P.underlying t = some (.slice e')) (G : ∀ w, (zeroValue e').run P w = .ok m w) (hu : zo k v i u) (s : m.cells = zs.toArray) (A : jv E x = u) (r : ∀ W' R', ST dd F w W' μ (R' ++ Y) → kk e Rl k μ v (nO l i z) R' → K (.tuple #[]) W') : mD P E ⟨d, .call ⟨.builtin .clear, #[x], #[t]⟩, ty, pos, af, g⟩ W K := by
 obtain ⟨cl, h1, p⟩ := h
 exact Bl (q.cell b) j h1 xP M6 y G hu s A (fun W' R' n a2 => r W' R' n ⟨_, a2, p.R7 b i⟩)
end
section
variable {P : Program} {W : World} {E : Nat → Value} {d : Option Nat} {ty : TypeId} {pos : String} {af : Array Edge} {g : Option (Nat × Bool)}
theorem MI {tx tv : TypeId} {x y : Operand} {fv : Value} {s u : Array TypeId} {bb : Bool} (j : P.underlying tx = some (.func s u bb)) (h : ∃ f a b, fv = .func f a b) (l : jv E x = fv) (m : jv E y = .nilFunc) :
  lu P E ⟨d, .binOp .neq tx x y tv, ty, pos, af, g⟩ W (.bool true) W := by
 obtain ⟨f, a, b, rfl⟩ := h
 show (do let r ← (do eqGuard .neq tx x y (jv E x) (jv E y); binOp .neq tx (jv E x) (jv E y)); pure (.value r) : Sem Next).run P W = _
 rw [l, m]
 have i := Et 9999 j f a b W
 simp [eqGuard, binOp, Op.equal, show Op.maxDepth = 9999 + 1 from rfl, i]
end
end Go.Proofs.YtjjjihkifgdhgaaGreatDoor
namespace Go.Proofs.YtjjjihkifgdhgaaGreatDoor
open Go.IntKind renaming wrap → wi0
open Go.RowKit
variable [M : Md]
theorem bS {α β : Type} {m : Option α} {f : α → Option β} {r : β} {G : Prop} (h : m.bind f = some r) (k : ∀ x, m = some x → f x = some r → G) : G :=
 let ⟨x, a, b⟩ := bind_some h
 k x a b
theorem sj {α : Type} {a b : α} (h : some a = some b) : a = b := fO h
theorem bC {α : Type} {b : Bool} {x y r : α} {G : Prop} (h : (if b = true then x else y) = r) (d : b = true → x = r → G) (k2 : b = false → y = r → G) : G := by
 rcases Lg b with e | e
 ·exact d e (PY e h)
 ·exact k2 e (P3 e h)
theorem cB {a b : Bool} (h : a = b) : Value.bool a = Value.bool b := bA Value.bool h
theorem nb {a b : Nat} (h : Nat.ble a b = true := by exact rfl) : a ≤ b := Nat.le_of_ble_eq_true h
def RJ : Nat → Nat → List Bool
 | 0, _ => []
 | n + 1, m => (m % 2 == 1) :: RJ n (m / 2)
def bm (n m : Nat) : Array Bool := (RJ n m).toArray
section
variable {P : Program} {n : Nat} {Q : pk} {E : Nat → Value} {W : World}
theorem CI {α : Type} {co : Operand} {b : Bool} {x y : Code} {A B r : α} (hm : (if b = true then A else B) = r) (d : jv E co = .bool b) (i : b = true → A = r → CW P n x Q E W) (h : b = false → B = r → CW P n y Q E W) : CW P n (.cond co x y) Q E W :=
 KO d (fun e => i e (PY e hm)) (fun e => h e (P3 e hm))
theorem CJ {d ρ : Type} {m : Option d} {k : d → Option ρ} {r : ρ} {x : Code} {K : (Nat → Value) → World → Prop} (hm : m.bind k = some r) (I : d → (Nat → Value) → World → Prop) (h1 : ∀ s, m = some s → CW P n x (pD (I s) Q) E W) (i : ∀ s E W, I s E W → k s = some r → K E W) : CW P n x (pD K Q) E W :=
 let ⟨s, a, b⟩ := bind_some hm
 Mp (I s) (h1 s a) (fun E W h => i s E W h b)
theorem Sv {i ρ d : Type} {m : Option (d ⊕ i)} {k : d ⊕ i → Option ρ} {r : ρ} {x : Code} {K : (Nat → Value) → World → Prop} (hm : m.bind k = some r) (I : i → (Nat → Value) → World → Prop) (h1 : ∀ s, m = some s → k s = some r → CW P n x (pD (fun E W => ∃ t, s = .inr t ∧ I t E W) Q) E W) (j : ∀ s E W, I s E W → k (.inr s) = some r → K E W) : CW P n x (pD K Q) E W :=
 let ⟨s, a, b⟩ := bind_some hm
 Mp (fun E W => ∃ t, s = .inr t ∧ I t E W) (h1 s a b) (fun E W ⟨t, e, h⟩ => j t E W h (by subst e; exact b))
theorem LJ {d ρ : Type} {m : Option d} {k : d → Option ρ} {r : ρ} {ops : Array Oper} {rest : List Oper} (hm : m.bind k = some r) (I : d → (Nat → Value) → World → Prop) (j : Nat) (i : ∀ s E W, I s E W → k s = some r → LW P n ops Q (rest.drop j) E W) (h1 : ∀ s, m = some s → (∀ E W, I s E W → LW P n ops Q (rest.drop j) E W) → LW P n ops Q rest E W) : LW P n ops Q rest E W :=
 let ⟨s, a, b⟩ := bind_some hm
 h1 s a (fun E W h => i s E W h b)
theorem PJ {d ρ : Type} {m : Option d} {k : d → Option ρ} {r : ρ} {ops : Array Oper} {S : Array Bool → World → Prop} {fuel : Nat} {listed : Array Bool} (hm : m.bind k = some r) (I : d → (Nat → Value) → World → Prop) (j : Array Bool) (i : Nat) (l : ∀ s E W, I s E W → k s = some r → PX P n ops Q S i j E W) (h1 : ∀ s, m = some s → (∀ E W, I s E W → PX P n ops Q S i j E W) → PX P n ops Q S fuel listed E W) : PX P n ops Q S fuel listed E W :=
 let ⟨s, a, b⟩ := bind_some hm
 h1 s a (fun E W h => l s E W h b)
theorem cF (n : Nat) {f : FuncId} {fn : Func} {c : Code} {args : List Value} {w : World} {R : Ending → World → Prop} (b : P.funcs[f]? = some fn) (d : fn.body = some c) (h : @CW zD P n c (vM P fn R) (Al args) w) (j : fn.ntmps = n := by exact rfl) (i : args.length ≤ n := by exact nb) : Calls P f args.toArray w R := vY b d j i h
end
section
variable {dd : Bool} {P : Program} {fn : Func} {E : Nat → Value} {W w : World} {μ : jN} {L : List (Nat × Obj)}
theorem rP {t : Tmp} {v : Value} (b : ST dd lB w W μ L) (d : fn.results = #[.tmp t] := by exact rfl) (h : E t = v := by exact rfl) : vM P fn (fun e W' => e = .returned v ∧ Ex dd w W') .ret E W := kV d h ⟨rfl, b.ex⟩
end
theorem ST.Du {dd : Bool} {F : Nat → Prop} {w W : World} {μ : jN} {x : Nat × Obj} {L : List (Nat × Obj)} (h : ST dd F w W μ (x :: L)) : ST dd F w W μ ([x] ++ L) := h
theorem ST.PZ {dd : Bool} {F : Nat → Prop} {w W : World} {μ : jN} {L : List (Nat × Obj)} (h : ST dd F w W μ L) : ST dd F w W μ ([] ++ L) := h
theorem aL {E : Nat → Value} {ax : Array Operand} {l : List Value} (h : ax.toList.map (jv E) = l) : ax.map (jv E) ++ (#[] : Array Value) = l.toArray := by subst h; apply Array.ext'; simp
section
variable {dd : Bool}
variable {P : Program} {E : Nat → Value} {W : World} {d : Option Nat} {ty : TypeId} {pos : String} {af : Array Edge} {g : Option (Nat × Bool)}
 {F : Nat → Prop} {w : World} {μ : jN} {L : List (Nat × Obj)}
variable {f : FuncId} {fv : Operand} {ax : Array Operand} {ats : Array TypeId} {args : List Value} {v : Value} {K : Value → World → Prop}
theorem Eg (b : ST dd F w W μ L) (he : ∀ args w, (callFunc f args).run P w = .ok (.enter f args) w) (i : kf dd P f args W v) (h : ∀ W', ST dd F w W' μ L → K v W') (j : jv E fv = .func (.func f) #[] #[] := by exact rfl) (ha : ax.toList.map (jv E) = args := by exact rfl) : mD P E ⟨d, .call ⟨.value fv, ax, ats⟩, ty, pos, af, g⟩ W K := DU b j he (aL ha) i h
theorem tb {α : Type} {e : TypeId} {enc : α → List Value} {k : Nat} {l : List α} {Y : List (Nat × Obj)} (b : ST dd F w W μ Y) (he : ∀ args w, (callFunc f args).run P w = .ok (.enter f args) w) (i : mi dd P f args W e enc k l) (h : ∀ W' v μ' R, ST dd F w W' μ' (R ++ Y) → jT μ μ' → Lo F w μ μ' → jL e enc k v l R → K v W') (j : jv E fv = .func (.func f) #[] #[] := by exact rfl) (ha : ax.toList.map (jv E) = args := by exact rfl) : mD P E ⟨d, .call ⟨.value fv, ax, ats⟩, ty, pos, af, g⟩ W K := Ki _ b j he (aL ha) i h
theorem Fq {K' : Value → List (Nat × Obj) → World → Prop} {L0 L2 : List (Nat × Obj)} (i : ST dd F w W μ L) (j : L.Perm (L0 ++ L2)) (he : ∀ args w, (callFunc f args).run P w = .ok (.enter f args) w) (l : Dv L0 W → (L0.map (·.1)).Nodup → jT μ (sR W L0) → (∀ b o, (b, o) ∈ L2 → sR W L0 b = some o) → kR dd P f args W L0 K') (h : ∀ W' v μ' L1, ST dd F w W' μ' (L1 ++ L2) → jT μ μ' → Lo F w μ μ' → (∀ b, W.heap.size ≤ b → ∀ o, sR W' L1 b = some o → μ' b = some o) → K' v L1 W' → K v W') (m : jv E fv = .func (.func f) #[] #[] := by exact rfl) (ha : ax.toList.map (jv E) = args := by exact rfl) : mD P E ⟨d, .call ⟨.value fv, ax, ats⟩, ty, pos, af, g⟩ W K :=
 OO L0 L2 i j m he (aL ha) (fun a b c d => by have := l a b c d; simpa using this) h
theorem Su {K' : Value → List (Nat × Obj) → jN → Prop} {L0 L2 : List (Nat × Obj)} (i : ST dd F w W μ L) (j : L.Perm (L0 ++ L2)) (he : ∀ args w, (callFunc f args).run P w = .ok (.enter f args) w) (l : Dv L0 W → (L0.map (·.1)).Nodup → jT μ (sR W L0) → (∀ b o, (b, o) ∈ L2 → sR W L0 b = some o) → lQ dd P f args W μ L0 K') (h : ∀ W' v μ' L1, ST dd F w W' μ' (L1 ++ L2) → jT μ μ' → Lo F w μ μ' → K' v L1 μ' → K v W') (m : jv E fv = .func (.func f) #[] #[] := by exact rfl) (ha : ax.toList.map (jv E) = args := by exact rfl) : mD P E ⟨d, .call ⟨.value fv, ax, ats⟩, ty, pos, af, g⟩ W K :=
 NM L0 L2 i j m he (aL ha) (fun a b c d => by have := l a b c d; simpa using this) h
end
section
variable {E : Nat → Value} {x1 x2 x3 x4 x5 x6 x7 x8 : Operand} {v1 v2 v3 v4 v5 v6 v7 v8 : Value}
theorem Og (h1 : jv E x1 = v1) : [x1].map (jv E) = [v1] := by rw [← h1]; rfl
theorem RD (h1 : jv E x1 = v1) (b : jv E x2 = v2) : [x1, x2].map (jv E) = [v1, v2] := by rw [← h1, ← b]; rfl
end
end Go.Proofs.YtjjjihkifgdhgaaGreatDoor
namespace Go.Proofs.YtjjjihkifgdhgaaGreatDoor
open Go.IntKind renaming wrap → wi0
open Go.RowKit
def Sz (R : List (Nat × Obj)) (k : Nat) (p : Value) (i b : Nat) : Prop := ∃ g o, R = [(g, o)] ∧ p = .pointer (some ⟨g, i * k + b, none⟩)
theorem yy.f {R : List (Nat × Obj)} {k : Nat} {p : Value} {i : Nat} (h : yy R k p i) : Sz R k p i 0 := h
section
variable {P : Program} {E : Nat → Value} {W : World} {d : Option Nat} {ty : TypeId} {pos : String} {af : Array Edge} {g : Option (Nat × Bool)}
 {dd : Bool} {F : Nat → Prop} {w : World} {μ : jN} {L : List (Nat × Obj)} {α : Type} {e' : TypeId} {enc : α → List Value} {k : Nat} {v : Value} {l : List α} {R : List (Nat × Obj)}
theorem jL.put (h : jL e' enc k v l R) (hk : ∀ x, (enc x).length = k) {p : Value} {i : Nat} (hp : yy R k p i) {x0 : α} (u : l[i]? = some x0) (x1 : α) :
  ∃ g b, R = [(g, .cells b e' (0, 0))] ∧ p = .pointer (some ⟨g, i * k, none⟩) ∧ i * k + k ≤ b.size ∧ (∀ j y, (enc x0)[j]? = some y → b[i * k + j]? = some y) ∧
   jL e' enc k v (l.set i x1) [(g, .cells (b.toList.take (i * k) ++ enc x1 ++ b.toList.drop (i * k + k)).toArray e' (0, 0))] := by
 have q : i < l.length := (aW.1 u).1
 obtain ⟨s, b, cap, rfl, rfl, t, A, n, E, rfl, G⟩ := zB h hk hp u
 have hle : i * k + k ≤ cap * k := by
  have : (i + 1) * k ≤ cap * k := cN _ (by omega)
  rwa [cM, jb] at this
 have d : i * k + k ≤ l.length * k := by
  have : (i + 1) * k ≤ l.length * k := cN _ (by omega)
  rwa [cM, jb] at this
 have hlen : l.length * k ≤ cap * k := cN _ t
 refine ⟨s, b, rfl, rfl, by rw [n]; exact hle, G, .inr ⟨s, cap, _, by simp, rfl, by simpa using t, A, ?_, ?_⟩⟩
 ·show ((b.toList.take (i * k) ++ (enc x1) ++ b.toList.drop (i * k + k)).toArray).size = _
  have m : b.toList.length = cap * k := by simpa using n
  rw [dw, aC, aC, cU, fz, hk, m, dB (by omega)]; omega
 ·rw [gG, Er hk l i x1 q, ← E]
  have w : (b.toList.take (l.length * k)).take (i * k) = b.toList.take (i * k) := by rw [fZ]; congr 1; omega
  have z : (b.toList.take (l.length * k)).drop (i * k + k) = (b.toList.drop (i * k + k)).take (l.length * k - (i * k + k)) := by rw [gQ]
  rw [w, z]
  show List.take (l.length * k) (b.toList.take (i * k) ++ enc x1 ++ b.toList.drop (i * k + k)) = _
  have m : b.toList.length = cap * k := by simpa using n
  have r : (b.toList.take (i * k) ++ enc x1).length = i * k + k := by rw [aC, cU, hk, m, dB (by omega)]
  rw [eQ, dA (by rw [r]; exact d), r]
end
variable [M : Md]
theorem oc {v : Value} (h : v.cells.toList.all Value.oneCell' = true := by exact rfl) : ∀ u ∈ v.cells.toList, u.oneCell' = true := ei.1 h
theorem dc {p : Prop} [Decidable p] (h : p := by decide) : p := h
theorem kr {p : Prop} (h : p := by kernel_rfl) : p := h
theorem br {α : Sort _} {a b : α} (h : a = b := by rfl) : a = b := h
abbrev LO := List (Nat × Obj)
abbrev Ob (c : Array Value) (t : TypeId) : Obj := .cells c t (0, 0)
abbrev Ol (c : List Value) (t : TypeId) : Obj := .cells c.toArray t (0, 0)
theorem mA {P : Program} {t e : TypeId} {m k : Nat} {z : Value} {b : Array (Nat × Value)} {cs : Array Value} (n : P.underlying t = some (.slice e)) (l : ∀ w, (sizeOf e).run P w = .ok k w) (r : ∀ w, (zeroValue e).run P w = .ok z w) (hm : m * k ≤ 16777216 := by decide) (j : b.toList = (b.toList.map (·.2)).zipIdx.map (fun p => (p.2, p.1)) := by exact rfl) (q : (b.toList.map (·.2)).all (fun v => v.cells.size == k) = true := by exact rfl) (i : (b.toList.map (·.2)).length = m := by exact rfl) (d : ((b.toList.map (·.2)).flatMap (fun v => v.cells.toList)).toArray = cs := by exact rfl) (W : World) :
  (Instr.buildSlice t m b).run P W = .ok (.slice (some ⟨W.heap.size, 0, none⟩) m m) (W.alloc (.cells cs e (0, 0))) :=
 BL _ n l r hm j (fun v h => eq_of_beq (ei.1 q v h)) i d W
section
variable {dd : Bool} {P : Program} {fn : Func} {E : Nat → Value} {W w : World} {μ : jN} {L L0 : List (Nat × Obj)}
theorem rQ {α : Type} {f : α → Value} {a r : α} {t : Tmp} (hm : some a = some r) (b : ST dd lB w W μ L) (d : fn.results = #[.tmp t] := by exact rfl) (h : E t = f a := by exact rfl) : vM P fn (fun e W' => e = .returned (f r) ∧ Ex dd w W') .ret E W := by
 obtain rfl := sj hm; exact kV d h ⟨rfl, b.ex⟩
theorem cG (n : Nat) {f : FuncId} {c : Code} {args : List Value} {v : Value} (b : P.funcs[f]? = some fn) (d : fn.body = some c) (h : ST dd lB w w (hp w) [] → @CW zD P n c (vM P fn (fun e l => e = .returned v ∧ Ex dd w l)) (Al args) w) (j : fn.ntmps = n := by exact rfl) (i : args.length ≤ n := by exact nb) : kf dd P f args w v := vY b d j i (h (ST.start w))
theorem vV {K : Value → List (Nat × Obj) → World → Prop} (n : Nat) {f : FuncId} {c : Code} {args : List Value} (b : P.funcs[f]? = some fn) (i : fn.body = some c) (h : ST dd lB w w (hp w) [] → @CW zD P n c (vM P fn (fun e d => ∃ v L1, e = .returned v ∧ si dd [] L1 w d ∧ K v L1 d)) (Al args) w) (l : fn.ntmps = n := by exact rfl) (j : args.length ≤ n := by exact nb) : kR dd P f args w [] K := vY b i l j (h (ST.start w))
theorem zb {K : Value → List (Nat × Obj) → World → Prop} (i : nD μ L0 w) (n : Nat) {f : FuncId} {c : Code} {args : List Value} (b : P.funcs[f]? = some fn) (j : fn.body = some c) (h : ST dd (keys L0) w w μ L0 → @CW zD P n c (vM P fn (fun e d => ∃ v L1, e = .returned v ∧ si dd L0 L1 w d ∧ K v L1 d)) (Al args) w) (m : fn.ntmps = n := by exact rfl) (l : args.length ≤ n := by exact nb) : kR dd P f args w L0 K := vY b j m l (h (ST.FW i))
theorem uW {K : Value → List (Nat × Obj) → jN → Prop} (i : nD μ L0 w) (n : Nat) {f : FuncId} {c : Code} {args : List Value} (b : P.funcs[f]? = some fn) (j : fn.body = some c) (h : ST dd (keys L0) w w μ L0 → @CW zD P n c (vM P fn (fun e d => ∃ v L1 μ1, e = .returned v ∧ si dd L0 L1 w d ∧ jT μ μ1 ∧ Lo (keys L0) w μ μ1 ∧ jT μ1 (sR d L1) ∧ K v L1 μ1)) (Al args) w) (m : fn.ntmps = n := by exact rfl) (l : args.length ≤ n := by exact nb) : lQ dd P f args w μ L0 K := vY b j m l (h (ST.FW i))
end
section
variable {dd : Bool}
variable {P : Program} {E : Nat → Value} {W : World} {d : Option Nat} {ty : TypeId} {pos : String} {af : Array Edge} {g : Option (Nat × Bool)}
 {F : Nat → Prop} {w : World} {μ : jN} {L : List (Nat × Obj)}
variable {f : FuncId} {fv : Operand} {ax : Array Operand} {ats : Array TypeId} {args : List Value} {v : Value} {K : Value → World → Prop}
theorem eM {K' : Value → List (Nat × Obj) → World → Prop} {L0 L2 : List (Nat × Obj)} (i : ST dd F w W μ L) (j : L.Perm (L0 ++ L2)) (he : ∀ args w, (callFunc f args).run P w = .ok (.enter f args) w) (l : nD (sR W L0) L0 W → jT μ (sR W L0) → kR dd P f args W L0 K') (h : ∀ W' v μ' L1, ST dd F w W' μ' (L1 ++ L2) → jT μ μ' → Lo F w μ μ' → (∀ b, W.heap.size ≤ b → ∀ o, sR W' L1 b = some o → μ' b = some o) → K' v L1 W' → K v W') (m : jv E fv = .func (.func f) #[] #[] := by exact rfl) (ha : ax.toList.map (jv E) = args := by exact rfl) : mD P E ⟨d, .call ⟨.value fv, ax, ats⟩, ty, pos, af, g⟩ W K :=
 Fq i j he (fun a b c _ => l ⟨a, b, jT.refl _⟩ c) h m ha
theorem eD {K' : Value → List (Nat × Obj) → jN → Prop} {L0 L2 : List (Nat × Obj)} (i : ST dd F w W μ L) (j : L.Perm (L0 ++ L2)) (he : ∀ args w, (callFunc f args).run P w = .ok (.enter f args) w) (l : nD μ L0 W → lQ dd P f args W μ L0 K') (h : ∀ W' v μ' L1, ST dd F w W' μ' (L1 ++ L2) → jT μ μ' → Lo F w μ μ' → K' v L1 μ' → K v W') (m : jv E fv = .func (.func f) #[] #[] := by exact rfl) (ha : ax.toList.map (jv E) = args := by exact rfl) : mD P E ⟨d, .call ⟨.value fv, ax, ats⟩, ty, pos, af, g⟩ W K :=
 Su i j he (fun a b c _ => l ⟨a, b, c⟩) h m ha
end
def L5 (op : BinOp) : Value → Value → Option Value
 | .int k a, .int k' b => if k = k' then Hx k op a b else none
 | _, _ => none
def P0 (i : Nat) : Value → Option Value
 | .tuple vs => vs[i]?
 | _ => none
def HD : Value → Bool
 | .pointer (some ⟨_, _, none⟩) => true
 | _ => false
def PS (o : Nat) : Value → Value
 | .pointer (some ⟨b, k, none⟩) => .pointer (some ⟨b, k + o, none⟩)
 | v => v
theorem G7 {v : Value} (h : HD v = true) : ∃ b k, v = .pointer (some ⟨b, k, none⟩) := by
 unfold HD at h; split at h
 ·exact ⟨_, _, rfl⟩
 ·cases h
section
variable {P : Program} {n : Nat} {Q : pk} {E : Nat → Value} {W : World} {ops : Array Oper} {rest : List Oper}
 {d j t : Nat} {want b : Bool} {v : Value} {ins : Go.Op} {ty : TypeId} {pos : String} {af : Array Edge} {A : Value → Prop} {x y : Operand}
theorem Wm (h : LW P n ops Q rest (nA E d (jv E x)) W) (b : d < n := by decide) : LW P n ops Q (⟨some d, .move x, ty, pos, af, none⟩ :: rest) E W := V (jB rfl) h b
theorem Wa (h : LW P n ops Q rest (nA E d (jv E x)) W) (b : d < n := by decide) : LW P n ops Q (⟨some d, .assign x, ty, pos, af, none⟩ :: rest) E W := V (nt rfl) h b
theorem Wh (i : jv E x = v) (h : LW P n ops Q rest (nA E d v) W) (b : d < n := by decide) : LW P n ops Q (⟨some d, .move x, ty, pos, af, none⟩ :: rest) E W := V (jB i) h b
theorem Wg (i : jv E x = v) (h : LW P n ops Q rest (nA E d v) W) (b : d < n := by decide) : LW P n ops Q (⟨some d, .assign x, ty, pos, af, none⟩ :: rest) E W := V (nt i) h b
theorem Wx {i : Nat} (b : P0 i (jv E x) = some v) (h : LW P n ops Q rest (nA E d v) W) (j : d < n := by decide) : LW P n ops Q (⟨some d, .extract x i, ty, pos, af, none⟩ :: rest) E W := by
 unfold P0 at b; split at b
 ·rename_i vs e; exact V (DB e b) h j
 ·cases b
theorem Wi {op : BinOp} {tx tv : TypeId} (i : L5 op (jv E x) (jv E y) = some v) (h : LW P n ops Q rest (nA E d v) W) (m : d < n := by decide) : LW P n ops Q (⟨some d, .binOp op tx x y tv, ty, pos, af, none⟩ :: rest) E W := by
 unfold L5 at i; split at i
 ·rename_i k a k' b j l
  split at i
  ·rename_i e; subst e; exact V (kC j l i) h m
  ·cases i
 ·cases i
theorem Wf {t : TypeId} {f off : Nat} (i : kQ P t f off) (h : LW P n ops Q rest (nA E d (PS off (jv E x))) W) (hp : HD (jv E x) = true := by exact rfl) (j : d < n := by decide) : LW P n ops Q (⟨some d, .fieldAddr t x f, ty, pos, af, none⟩ :: rest) E W := by
 obtain ⟨b, k, e⟩ := G7 hp
 refine V (jy i e) ?_ j
 rw [e] at h; exact h
theorem Wn (h : LW P n ops Q rest (nA E d (jv E x)) W) (hp : HD (jv E x) = true := by exact rfl) (i : d < n := by decide) : LW P n ops Q (⟨some d, .nilCheck x, ty, pos, af, none⟩ :: rest) E W := by
 obtain ⟨b, k, e⟩ := G7 hp
 refine V (mw e) ?_ i
 rw [e] at h; exact h
theorem un (h : b = !want) (k : LW P n ops Q rest (nA E d undef) W) (l : (ops[j]?).bind (·.dst) = some t := by exact rfl) (i : E t = .bool b := by exact rfl) (p : t < n := by decide) (m : d < n := by decide) :
  LW P n ops Q (⟨some d, ins, ty, pos, af, some (j, want)⟩ :: rest) E W := Vn l (by rw [i, h]) k p m
theorem ug (h : b = want) (p : lu P E ⟨some d, ins, ty, pos, af, some (j, want)⟩ W v W) (k : LW P n ops Q rest (nA E d v) W) (l : (ops[j]?).bind (·.dst) = some t := by exact rfl) (i : E t = .bool b := by exact rfl) (q : t < n := by decide) (m : d < n := by decide) :
  LW P n ops Q (⟨some d, ins, ty, pos, af, some (j, want)⟩ :: rest) E W := Vg l (by rw [i, h]) p k q m
theorem vH (h : b = want) (k : mD P E ⟨some d, ins, ty, pos, af, some (j, want)⟩ W fun v W' => LW P n ops Q rest (nA E d v) W') (l : (ops[j]?).bind (·.dst) = some t := by exact rfl) (i : E t = .bool b := by exact rfl) (p : t < n := by decide) (m : d < n := by decide) :
  LW P n ops Q (⟨some d, ins, ty, pos, af, some (j, want)⟩ :: rest) E W := My l (by rw [i, h]) k p m
theorem N6 (h : b = want) (q : ∃ p, A p ∧ ∀ W, lu P E ⟨some d, ins, ty, pos, af, some (j, want)⟩ W p W) (k : ∀ p, A p → LW P n ops Q rest (nA E d p) W) (l : (ops[j]?).bind (·.dst) = some t := by exact rfl) (i : E t = .bool b := by exact rfl) (r : t < n := by decide) (m : d < n := by decide) :
  LW P n ops Q (⟨some d, ins, ty, pos, af, some (j, want)⟩ :: rest) E W := SA l (by rw [i, h]) q k r m
section
variable {dd : Bool} {F : Nat → Prop} {w : World} {μ : jN} {L : List (Nat × Obj)} {T : TypeId} {a off : Nat} {cs : Array Value} {fr : Nat × Nat}
theorem VA {t : TypeId} (b : ST dd F w W μ L) (j : (a, Obj.cells cs T fr) ∈ L) (ys : List Value) (i : ∀ w, (isAgg t).run P w = .ok true w) (l : ∀ w, (sizeOf t).run P w = .ok ys.length w) (h : LW P n ops Q rest (nA E d (.agg ys.toArray)) W) (p : jv E x = .pointer (some ⟨a, off, none⟩) := by exact rfl) (q : (cs.toList.drop off).take ys.length = ys := by exact rfl) (m : d < n := by decide) : LW P n ops Q (⟨some d, .load t x, ty, pos, af, none⟩ :: rest) E W := V (jt p (jD b.has j ys q i l)) h m
theorem VB {t : TypeId} (b : ST dd F w W μ L) (j : (a, Obj.cells cs T fr) ∈ L) (m : jv E x = .pointer (some ⟨a, off, none⟩)) (p : cs[off]? = some v) (i : ∀ w, (isAgg t).run P w = .ok false w) (h : LW P n ops Q rest (nA E d v) W) (l : d < n := by decide) : LW P n ops Q (⟨some d, .load t x, ty, pos, af, none⟩ :: rest) E W := V (jt m (jJ b.has j p i)) h l
end
section
variable {K : (Nat → Value) → World → Prop} {Q' : pk} {c : Code} {id id2 : Nat} {l : List Oper} {z : Code}
theorem sg (h : LW P n l.toArray (pD (fun E W => CW P n c Q E W) Q) l E W) : CW P n (.seq (.region id l.toArray false) c) Q E W := jI (jF h)
theorem ln (h : K E W) : LW P n ops (pD K Q) [] E W := kd (jE h)
theorem lr (h : LW P n l.toArray (pD (fun E W => CW P n c Q E W) Q) l E W) : LW P n ops (pD (fun E W => CW P n (.seq (.region id l.toArray false) c) Q E W) Q') [] E W := kd (jE (jI (jF h)))
theorem lS (h : LW P n l.toArray (pD (fun E W => CW P n c (pD (fun E W => CW P n z Q E W) Q) E W) (pD (fun E W => CW P n z Q E W) Q)) l E W) : LW P n ops (pD (fun E W => CW P n (.seq (.seq (.region id l.toArray false) c) z) Q E W) Q') [] E W := kd (jE (jI (jI (jF h))))
theorem bg (h : LW P n l.toArray (pD (fun E W => CW P n c (uU id2 Q) E W) (uU id2 Q)) l E W) : CW P n (.block id2 (.seq (.region id l.toArray false) c)) Q E W := lK (jI (jF h))
theorem kg (h : LW P n l.toArray (pD (fun E W => CW P n c Q E W) Q) l E W) : CW P n .skip (pD (fun E W => CW P n (.seq (.region id l.toArray false) c) Q E W) Q') E W := lE (jE (jI (jF h)))
theorem kS (h : LW P n l.toArray (pD (fun E W => CW P n c (pD (fun E W => CW P n z Q E W) Q) E W) (pD (fun E W => CW P n z Q E W) Q)) l E W) : CW P n .skip (pD (fun E W => CW P n (.seq (.seq (.region id l.toArray false) c) z) Q E W) Q') E W := lE (jE (jI (jI (jF h))))
theorem lt (h : Q .ret E W) : LW P n ops (pD (fun E W => CW P n .ret Q E W) Q') [] E W := kd (jE (ky h))
theorem kn (h : K E W) : CW P n .skip (pD K Q) E W := lE (jE h)
end
end
theorem oL.LC {α : Type} {dd : Bool} {w W : World} {μ : jN} {L R : List (Nat × Obj)} {e : TypeId} {enc : α → List Value} {k : Nat} {v : Value} {l : List α} (h : oL e enc k v l R) (i : ST dd lB w W μ L) (m : ∀ p, p ∈ R → p ∈ L) : Fr w.heap.size v := by
 rcases h with ⟨rfl, rfl, rfl⟩ | ⟨g, off, cap, d, rfl, rfl, h1, n, q, r⟩
 ·exact Fr.nil _
 ·intro b j
  simp [Value.ownBlock] at j
  subst j
  rcases (i.box g (.cells d e (0, 0)) (m _ (bK.2 rfl))).2.2 with h | h
  ·exact h
  ·exact h.elim
theorem IC.mono {α β : Type} {P : Program} {fv : Value} {μ μ0 : jN} {d : α → List Value} {i : β → Value} {pm : α → Option β} (h : IC P fv μ d i pm) (m : jT μ μ0) : IC P fv μ0 d i pm := by
 obtain ⟨f, b, h1, j, l⟩ := h
 exact ⟨f, b, h1, j, fun W x r h => l W x r (m.trans h)⟩
theorem IC.form {α β : Type} {P : Program} {fv : Value} {μ : jN} {d : α → List Value} {i : β → Value} {pm : α → Option β} (h : IC P fv μ d i pm) : ∃ f a b, fv = .func f a b := let ⟨f, b, h, _⟩ := h; ⟨_, _, b, h⟩
def EX (l s : ByteArray) : Option ByteArray := if l.size + s.size ≤ 140737488355328 then some (l ++ s) else none
def PN (l : ByteArray) : Option ByteArray := some l
def vB (n : Int) : ByteArray := ⟨(Go.Lib.itoa n).toArray⟩
def yo (n : Int) : Option ByteArray := if -9223372036854775808 ≤ n ∧ n ≤ 9223372036854775807 then some (vB n) else none
end Go.Proofs.YtjjjihkifgdhgaaGreatDoor
namespace Go.Proofs.YtjjjihkifgdhgaaGreatDoor
open Go.IntKind renaming wrap → wi0
open Go.RowKit
section
variable {P : Program} {E : Nat → Value} {W : World} {d : Option Nat} {x y : Operand} {tx tv ty : TypeId} {pos : String} {af : Array Edge} {g : Option (Nat × Bool)} {ms : List (String × TypeId)}
theorem EB {tx e : TypeId} {k : Nat} {p : Addr} (dd : Nat) (d : P.underlying tx = some (.pointer e)) (b : ∀ w, (sizeOf e).run P w = .ok (k + 1) w) (W : World) : (Op.equalIn (dd + 1) tx (.pointer (some p)) (.pointer (some p))).run P W = .ok true W := by
 simp [Op.equalIn, aS d, b W, run_sameAddr_same]
theorem Jd {e : TypeId} {k : Nat} {p : Addr} (i : P.underlying tx = some (.pointer e)) (h : ∀ w, (sizeOf e).run P w = .ok (k + 1) w) (j : jv E x = .pointer (some p)) (l : jv E y = .pointer (some p)) : lu P E ⟨d, .binOp .neq tx x y tv, ty, pos, af, g⟩ W (.bool false) W := by
 show (do let r ← (do eqGuard .neq tx x y (jv E x) (jv E y); binOp .neq tx (jv E x) (jv E y)); pure (.value r) : Sem Next).run P W = _
 rw [j, l]
 have b := EB (p := p) 9999 i h W
 simp [eqGuard, binOp, Op.equal, Op.maxDepth, b]
end
theorem pv.form {κ γ : Type} {kenc : κ → Value} {Q : Value → γ → List (Nat × Obj) → Prop} {μ : jN} {v : Value} {l : List (κ × γ)} (h : pv kenc Q μ v l) : ∃ m, v = .map m := by
 obtain ⟨b, R, h, _⟩ := h
 obtain ⟨m, rfl⟩ := h.form
 exact ⟨_, rfl⟩
theorem lQ.mono {dd : Bool} {P : Program} {f : FuncId} {args : List Value} {w : World} {μ0 : jN} {L0 : List (Nat × Obj)} {K K' : Value → List (Nat × Obj) → jN → Prop} (h : lQ dd P f args w μ0 L0 K) (hk : ∀ v L1 μ1, jT μ0 μ1 → K v L1 μ1 → K' v L1 μ1) : lQ dd P f args w μ0 L0 K' :=
 cW h fun _ _ ⟨v, L1, μ1, h1, d, b, i, j, l⟩ => ⟨v, L1, μ1, h1, d, b, i, j, hk _ _ _ b l⟩
section
variable {dd : Bool} {F : Nat → Prop} {w W : World} {μ : jN} {L : List (Nat × Obj)} {l : Nat}
theorem zk {w : World} {b : Nat} {o : Obj} (h : b ≠ l) : (w.putObj l o).heap[b]? = w.heap[b]? := World.putObj_heap_other h
theorem ST.frame (h : ST dd F w W μ L) (o : Obj) (p : l < w.heap.size) (n : ¬ F l) (hm : μ l = none) : ST dd F (w.putObj l o) (W.putObj l o) μ L := by
 refine ⟨h.os, h.tape, h.output, h.drawn, by simpa using h.size, fun b i q => ?_, fun b x i => ?_, fun b x i => ?_, h.nd⟩
 ·by_cases d : b = l
  ·subst d
   rw [World.putObj_heap_same (by have := h.size; omega), World.putObj_heap_same p]
  ·rw [zk d, zk d]
   exact h.lF b (by simpa using i) q
 ·have d : b ≠ l := fun e => by rw [e, hm] at i; cases i
  rw [zk d]; exact h.mem b x i
 ·obtain ⟨h1, m, j⟩ := h.box b x i
  have d : b ≠ l := fun e => by
   subst e
   rcases j with j | j
   ·omega
   ·exact n j
  rw [zk d]
  exact ⟨h1, m, by simpa using j⟩
end
theorem CR (s : ByteArray) : Go.Lib.strCells s = ((lV s).map (ku .u8)).flatten := by
 unfold Go.Lib.strCells lV
 induction s.data.toList with
 | nil => rfl
 | cons b l ih => simp only [bF, bL, ih]; rfl
theorem ED (k : IntKind) (l : List Int) : ((l.map (ku k)).flatten).length = l.length := by
 rw [oW (k := 1) (fun _ => rfl), ir]
section
variable {P : Program} {dd : Bool} {F : Nat → Prop} {w W : World} {μ : jN} {R : List (Nat × Obj)} {E : Nat → Value} {d : Option Nat} {ty : TypeId} {pos : String} {af : Array Edge} {g : Option (Nat × Bool)}
theorem Jk {K : Value → World → Prop} {e t u : TypeId} {v : Value} {l r : List Int} {str : ByteArray} (X : List (Nat × Obj)) {Y : List (Nat × Obj)} {x y : Operand} {i : TypeInfo} (p : ST dd F w W μ (X ++ (R ++ Y))) (ht : P.underlying t = some (.slice e)) (hu : P.underlying u = some .string) (Z : P.info? e = some i) (hz : i.zero = some (.int .u8 0)) (L : i.size = 1) (Q : i.bytes = 1) (hx : jv E x = v) (hy : jv E y = .string str) (hR : jL e (ku .u8) 1 v l R) (U : lC 1 l (lV str) = some r) (h : ∀ W' v' R', ST dd F w W' μ (X ++ (R' ++ Y)) → jL e (ku .u8) 1 v' r R' → (v = .slice none 0 0 → str.size = 0 → v' = .slice none 0 0) → K v' W') : mD P E ⟨d, .call ⟨.builtin .append, #[x, y], #[t, u]⟩, ty, pos, af, g⟩ W K := by
 unfold lC at U
 split at U
 case isFalse => cases U
 rename_i O
 cases U
 rw [mB, ir] at O
 obtain ⟨a1, M⟩ := O
 have hM : maxLen = 9223372036854775807 := by unfold maxLen; rfl
 have A : ∀ (V : Value) (W' : World), (Builtin.append_ #[t, u] ty #[v, .string str]).run P W = .ok V W' → (execOp (jv E) ⟨d, .call ⟨.builtin .append, #[x, y], #[t, u]⟩, ty, pos, af, g⟩).run P W = .ok (.value V) W' := by
  intro V W' hV
  show (do let d ← resolve (jv E) ⟨.builtin .append, #[x, y], #[t, u]⟩ ty; invoke d.target d.args : Sem Next).run P W = _
  simp [resolve, invoke, builtin, hx, hy, hV]
 have s : ((l ++ lV str).map (ku .u8)).flatten = (l.map (ku .u8)).flatten ++ Go.Lib.strCells str := by rw [bY, cK, CR]
 have m : (l ++ lV str).length = l.length + str.size := by rw [aC, mB]
 have ad : (Value.int IntKind.u8 0).cells.size = 1 := rfl
 have fresh : ∀ (lF : Nat) (L' : List (Nat × Obj)), ¬ (v = .slice none 0 0 ∧ str.size = 0) → ST dd F w W μ L' → L'.Perm (X ++ Y) → (Builtin.append_ #[t, u] ty #[v, .string str]).run P W = .ok (.slice (some ⟨W.heap.size, 0, none⟩) (l.length + str.size) (grownCap W (l.length + str.size) lF e))
    (W.drew.alloc (.cells (((l.map (ku .u8)).flatten ++ Go.Lib.strCells str).toArray ++ Builtin.zeroCells (Value.int .u8 0).cells (grownCap W (l.length + str.size) lF e - (l.length + str.size))) e)) →
   mD P E ⟨d, .call ⟨.builtin .append, #[x, y], #[t, u]⟩, ty, pos, af, g⟩ W K := by
  intro lF L' hv J hp I
  have a8 := ja W (l.length + str.size) lF e
  have a7 : grownCap W (l.length + str.size) lF e ≤ maxLen := fQ W (l.length + str.size) lF e M
  have hlen : ((l.map (ku .u8)).flatten ++ Go.Lib.strCells str).length = l.length + str.size := by rw [aC, ED, gj]
  generalize T : ((l.map (ku .u8)).flatten ++ Go.Lib.strCells str).toArray ++ Builtin.zeroCells (Value.int .u8 0).cells (grownCap W (l.length + str.size) lF e - (l.length + str.size)) = cs at I
  refine .inl ⟨_, _, A _ _ I, h _ _ [(W.heap.size, .cells cs e)] ?_ (.inr ⟨W.heap.size, _, cs, by rw [m], rfl, by rw [m]; exact a8, a7, ?_, ?_⟩) fun q1 q2 => absurd ⟨q1, q2⟩ hv⟩
  ·exact ((J.perm hp).drew.alloc _).perm (List.perm_middle.symm)
  ·subst T
   simp only [iq, dw, gT, ad, hlen]
   omega
  ·subst T
   rw [m, s, ir, ← hlen]
   simp only [gJ]
   exact gi
 rcases hR with ⟨rfl, rfl, rfl⟩ | ⟨G, cap, n, rfl, rfl, q1, q2, q3, q4⟩
 ·rcases ee str.size with J | J
  ·have hf := Go.Lib.run_firstCells_string (P := P) W 1 str
   have a6 : lV str = [] := aO (by rw [mB]; exact J)
   refine .inl ⟨.slice none 0 0, W, A _ _ ?_, h W _ [] p (.inl ⟨rfl, by rw [a6]; rfl, rfl⟩) fun _ _ => rfl⟩
   simp [Builtin.append_, aS ht, aS hu, sizeOf, typeInfo, Z, L, Builtin.lenOf, J]
   rw [J] at hf
   simp [hf]
  ·have I := run_append_nil_string (P := P) W t u ty e i (.int .u8 0) ht hu Z hz str J (by simp at M; omega) (by rw [Q]; simp at a1; omega)
   refine fresh 0 _ (fun q => by omega) p (.refl _) ?_
   have e1 : (str.data.map fun b => Value.int .u8 b.toNat) = (Go.Lib.strCells str).toArray := by
    apply Array.ext'
    simp [Go.Lib.strCells]
   rw [e1] at I
   simpa using I
 ·have hg := (p.box G (.cells n e (0, 0)) (by simp)).1
  by_cases z : l.length + str.size ≤ cap
  ·have I := Go.Lib.run_append_room_string (P := P) W t u ty e i ht hu Z L G l.length cap n hg str z (by omega)
   refine .inl ⟨_, _, A _ _ I, h _ _ [(G, _)] (ST.put p ⟨rfl, rfl, rfl, aR _, by simp⟩ (fun k hk => setRow_other W G k _ hk) (setRow_heap W G n _ e _ hg)) (.inr ⟨G, cap, _, by rw [m], rfl, by rw [m]; exact z, q2, ?_, ?_⟩) fun q => by cases q⟩
   ·simp only [dw, aC, cU, fz, dt, gj]
    omega
   ·have ab : n.toList.take l.length = (l.map (ku .u8)).flatten := by simpa using q4
    rw [m, s, ir, ab, show l.length + str.size = ((l.map (ku .u8)).flatten ++ Go.Lib.strCells str).length by rw [aC, ED, gj]]
    simp only [aI]
    rw [← aI]
    exact gi
  ·have holds : ∀ j u, ((l.map (ku .u8)).flatten)[j]? = some u → W.cell? ((⟨G, 0, none⟩ : Addr).add j) = some u := by
    intro j u hj
    rw [dz, ft W G (0 + j) n e (0, 0) hg, dI]
    rw [← q4] at hj
    have aa := (aW.1 hj).1
    rw [cU] at aa
    rw [dq (by omega)] at hj
    simpa using hj
   have I := Go.Lib.run_append_grow_string (P := P) W t u ty e i (.int .u8 0) ht hu Z hz ⟨G, 0, none⟩ l.length cap ((l.map (ku .u8)).flatten) (by rw [ED, L, ir]) holds str (by omega) (by omega) (by rw [Q]; exact growslice_fits (by omega) (by omega))
   refine fresh cap (X ++ Y) (fun q => by cases q.1) (p.sublist (by simp)) (.refl _) ?_
   simpa using I
theorem MH {s t : TypeId} {x : Operand} {v b : Value} (i : jv E x = v) (h : (convert s t v).run P W = .ok b W) : lu P E ⟨d, .convert s t x, ty, pos, af, g⟩ W b W := by
 show (do pure (.value (← convert s t (jv E x))) : Sem Next).run P W = _
 rw [i]
 simp only [bZ, h, bM, dm]
theorem Ev {b : Nat} {cs : Array Value} {T : TypeId} {fr : Nat × Nat} {W : World} (h : W.heap[b]? = some (.cells cs T fr)) : W.shape? b = some (T, cs.size) := by simp [World.shape?, h]
def H6 (T e : TypeId) (v : Value) (l : ByteArray) (R : List (Nat × Obj)) : Prop :=
 ∃ b a u S, v = .pointer (some ⟨b, 0, none⟩) ∧ (a = .pointer none ∨ a = .pointer (some ⟨b, 0, none⟩)) ∧ R = (b, .cells #[a, u] T (0, 0)) :: S ∧ jL e (ku .u8) 1 u (lV l) S ∧ (l.size = 0 → u = .slice none 0 0)
theorem KQ (l s : ByteArray) : lV (l ++ s) = lV l ++ lV s := by
 simp [lV, ByteArray.data_append]
theorem MX {l s r : ByteArray} (h : EX l s = some r) : lC 1 (lV l) (lV s) = some (lV r) := by
 unfold EX at h
 split at h
 case isFalse => cases h
 rename_i b
 cases h
 unfold lC
 rw [mB, mB, KQ, aZ ⟨by omega, by unfold maxLen; omega⟩]
theorem No {l s r : ByteArray} (h : EX l s = some r) (b : r.size = 0) : l.size = 0 ∧ s.size = 0 := by
 unfold EX at h
 split at h
 case isFalse => cases h
 cases h
 rw [dP] at b
 omega
theorem AY (w : World) (g n k : Nat) (hk : k ≠ g) : (w.freeze ⟨g, 0, none⟩ n).heap[k]? = w.heap[k]? := by
 unfold World.freeze
 split
 ·rfl
 ·simp [dF, Ne.symm hk]
theorem Mu {L : List (Nat × Obj)} {g n : Nat} {o : Obj} (i : ST dd F w W μ ((g, o) :: L)) : ST dd F w (W.freeze ⟨g, 0, none⟩ n) μ L := by
 have h1 := i.sublist (List.sublist_cons_self _ _)
 have r := i.box g o (.head _)
 have l : ∀ b q, (b, q) ∈ L → b ≠ g := fun b q d e => by
  subst e
  have := i.nd
  simp only [bF, cY] at this
  exact this.1 (bH.2 ⟨_, d, rfl⟩)
 have m : (W.freeze ⟨g, 0, none⟩ n).heap.size = W.heap.size := by unfold World.freeze; split <;> simp
 have j : (W.freeze ⟨g, 0, none⟩ n).os = W.os ∧ (W.freeze ⟨g, 0, none⟩ n).tape = W.tape ∧ (W.freeze ⟨g, 0, none⟩ n).output = W.output ∧ (W.freeze ⟨g, 0, none⟩ n).drawn = W.drawn := by unfold World.freeze; split <;> exact ⟨rfl, rfl, rfl, rfl⟩
 refine ⟨j.1.trans h1.os, j.2.1.trans h1.tape, j.2.2.1.trans h1.output, by rw [j.2.2.2]; exact h1.drawn, by rw [m]; exact h1.size, fun b d p => ?_, fun b q d => ?_, fun b q d => ?_, h1.nd⟩
 ·rw [AY _ _ _ _ (fun e => by subst e; rcases r.2.2 with h | h; omega; exact p h)]; exact h1.lF b d p
 ·rw [AY _ _ _ _ (fun e => by subst e; rw [r.2.1] at d; cases d)]; exact h1.mem b q d
 ·rw [AY _ _ _ _ (l b q d)]; exact h1.box b q d
theorem Ny {x : Operand} {u : Value} {ats : Array TypeId} {q : Option Addr} (i : jv E x = u) (h : ∃ a n c, u = .slice a n c ∧ (a = none ∨ c ≠ 0) ∧ q = a) : lu P E ⟨d, .call ⟨.builtin .unsafeSliceData, #[x], ats⟩, ty, pos, af, g⟩ W (.pointer q) W := by
 obtain ⟨a, n, c, rfl, h1, rfl⟩ := h
 show (do let d ← resolve (jv E) ⟨.builtin .unsafeSliceData, #[x], ats⟩ ty; invoke d.target d.args : Sem Next).run P W = _
 have b : (Builtin.unsafeSliceData_ ats ty #[.slice q n c]).run P W = .ok (.pointer q) W := by
  rcases q with _ | a
  ·exact Go.Lib.run_unsafeSliceData_nil (P := P) W _ _ _ _
  ·exact Go.Lib.run_unsafeSliceData_row (P := P) W _ _ _ _ _ (h1.resolve_left (by simp))
 simp [resolve, invoke, builtin, i, b]
theorem Kh {K : Value → World → Prop} {L : List (Nat × Obj)} {t e : TypeId} (i : ST dd F w W μ L) (j : ∀ w, (zeroValue t).run P w = .ok (.agg #[.pointer none, .slice none 0 0]) w) (h : ∀ W' v R, ST dd F w W' μ (R ++ L) → H6 t e v ⟨#[]⟩ R → K v W') : mD P E ⟨d, .alloc t, ty, pos, af, g⟩ W K :=
 kB i j fun W' b i => h W' _ [(b, _)] i ⟨b, _, _, [], rfl, .inl rfl, rfl, .inl ⟨rfl, rfl, rfl⟩, fun _ => rfl⟩
theorem KG {l : ByteArray} (h : lV l = []) : l = ⟨#[]⟩ := by
 have : l.data.toList = [] := by simpa [lV] using h
 exact fI (by simpa using this)
theorem Jc {K : Value → World → Prop} {L S : List (Nat × Obj)} {x y : Operand} {p it e : TypeId} {q : Option Addr} {l : ByteArray} {n c : Nat} (i : ST dd F w W μ (S ++ L)) (hp : P.underlying p = some (.pointer e)) (R : P.cellsOf e = 1) (U : jv E x = .pointer q) (Y : jv E y = .int .i64 (n : Nat)) (O : jL e (ku .u8) 1 (.slice q n c) (lV l) S) (h : ∀ W', ST dd F w W' μ L → K (.string l) W') : mD P E ⟨d, .call ⟨.builtin .unsafeString, #[x, y], #[p, it]⟩, ty, pos, af, g⟩ W K := by
 have m : ∀ (V : Value) (W' : World), (Builtin.unsafeString_ #[p, it] ty #[.pointer q, .int .i64 (n : Nat)]).run P W = .ok V W' → (execOp (jv E) ⟨d, .call ⟨.builtin .unsafeString, #[x, y], #[p, it]⟩, ty, pos, af, g⟩).run P W = .ok (.value V) W' := by
  intro V W' Q
  show (do let d ← resolve (jv E) ⟨.builtin .unsafeString, #[x, y], #[p, it]⟩ ty; invoke d.target d.args : Sem Next).run P W = _
  simp [resolve, invoke, builtin, U, Y, Q]
 have none : lV l = [] → n = 0 → ∀ A : ST dd F w W μ L, mD P E ⟨d, .call ⟨.builtin .unsafeString, #[x, y], #[p, it]⟩, ty, pos, af, g⟩ W K := by
  intro h1 t A
  subst t
  rw [KG h1] at h
  exact .inl ⟨_, _, m _ _ (Go.Lib.run_unsafeString_none (P := P) W p it ty q), h W A⟩
 rcases O with ⟨h1, t, rfl⟩ | ⟨r, cap, b, h1, rfl, q1, Z, q3, q4⟩
 ·cases h1
  exact none t rfl i
 ·cases h1
  by_cases s : lV l = []
  ·exact none s (by rw [s]; rfl) (i.sublist (by simp))
  ·have v : l.data.toList ≠ [] := by simpa [lV] using s
   have u : (lV l).length = l.data.toList.length := by simp [lV]
   have G := (i.box r (.cells b e (0, 0)) (by simp)).1
   have J := Go.Lib.run_unsafeString_row (P := P) W p it ty e hp R r b.size (Ev G) l.data.toList v (by omega) (by unfold maxLen at Z; omega) (fun j x I => by
    rw [dz, ft W r (0 + j) b e (0, 0) G, dI]
    have T := (aW.1 I).1
    have z : (b.toList.take ((lV l).length * 1))[j]? = some (.int .u8 x.toNat) := by
     rw [q4, ← CR]
     simp only [Go.Lib.strCells, ew, I]
     rfl
    rw [dq (by omega)] at z
    simpa using z)
   rw [← u] at J
   refine .inl ⟨_, _, m _ _ J, ?_⟩
   have M : (⟨l.data.toList.toArray⟩ : ByteArray) = l := fI (by simp)
   rw [M]
   exact h _ (Mu i)
end
def BR (P : Program) (μ : jN) : Prop := ∃ g T fr, P.globalNamed "internal/strconv.uint64pow10" = some g ∧ μ g = some (.cells (Go.Lib.pow10Tab.map fun z => Value.int .u64 z).toArray T fr)
theorem BR.mono {P : Program} {μ μ' : jN} (h : BR P μ) (d : jT μ μ') : BR P μ' := by
 obtain ⟨g, T, fr, h1, b⟩ := h
 exact ⟨g, T, fr, h1, d _ _ b⟩
end Go.Proofs.YtjjjihkifgdhgaaGreatDoor
namespace Go.Proofs.YtjjjihkifgdhgaaGreatDoor
open Go.IntKind renaming wrap → wi0
open Go.Sort Go.Proofs Go.Shelf
theorem EO {g b : Nat} {o : Obj} : keys [(g, o)] b ↔ b = g := by
 constructor
 ·rintro ⟨d, h⟩
  simp at h
  exact h.1
 ·rintro rfl; exact ⟨o, by simp⟩
theorem AU (w : World) (g m : Nat) (f : Array Value → Array Value) (os : Array Obj) (b : Nat) (h : b < w.heap.size) :
  (Go.Sort.grow (mapBlock (Go.Sort.ahead w m) g f) os).heap[b]? = if g = b then w.heap[b]?.map (onCells f) else w.heap[b]? := by
 have d : b < (mapBlock (Go.Sort.ahead w m) g f).heap.size := by simp only [mapBlock, Go.Sort.ahead, Array.size_modify]; exact h
 rw [heap_grow_old _ _ d]
 simp only [mapBlock, Go.Sort.ahead, dF]
theorem I8 {w : World} {g m : Nat} {f : Array Value → Array Value} {os : Array Obj} {cs : Array Value} {T : TypeId} {fr : Nat × Nat} (i : w.heap[g]? = some (.cells cs T fr)) :
  si true [(g, .cells cs T fr)] [(g, .cells (f cs) T fr)] w (Go.Sort.grow (mapBlock (Go.Sort.ahead w m) g f) os) := by
 have d : g < w.heap.size := (dv.1 i).1
 refine ⟨⟨rfl, rfl, rfl, ?_, ?_, fun b j l => ?_⟩, fun b o h => ?_, by simp⟩
 ·refine ry.of ?_
  show w.drawn ≤ w.drawn + m
  omega
 ·show w.heap.size ≤ (w.heap.modify g (onCells f) ++ os).size
  simp
 ·rw [AU _ _ _ _ _ _ j, aY fun h => l (EO.2 h.symm)]
 ·simp only [aK, cV, eS, Prod.mk.injEq] at h
  obtain ⟨rfl, rfl⟩ := h
  refine ⟨?_, .inr (EO.2 rfl)⟩
  rw [AU _ _ _ _ _ _ d, aZ rfl, i]
  rfl
theorem Kq {w W : World} (h : Ex true w W) : ∃ q os, W = Go.Sort.grow (w.drewN q) os := by
 refine ⟨W.drawn - w.drawn, W.heap.extract w.heap.size W.heap.size, ?_⟩
 have l : W.heap = w.heap ++ W.heap.extract w.heap.size W.heap.size := by
  apply Array.ext_getElem?
  intro i
  rw [Array.getElem?_append]
  split
  ·rename_i m; exact h.lF i m
  ·rename_i m
   rw [Array.getElem?_extract]
   have p := h.size
   split
   ·rw [show w.heap.size + (i - w.heap.size) = i by omega]
   ·exact Array.getElem?_eq_none (by omega)
 obtain ⟨h1, r, s, t, u⟩ := W
 have b := h.os; have d := h.tape; have j := h.output; have n := h.drawn rfl
 simp only at b d j n l
 unfold Go.Sort.grow World.drewN
 simp only [World.mk.injEq]
 exact ⟨l, d, by omega, b, j⟩
theorem JI {α : Type} [Inhabited α] {enc : α → List Value} {k : Nat} (hk : ∀ x, (enc x).length = k) (l : List α) (j : Nat) (b : j < l.length * k) :
  (l.map enc).flatten[j]? = some ((flatK enc k l.toArray)[j]!) := by
 have i : 0 < k := by
  cases k with
  | zero => simp at b
  | succ n => omega
 have h1 : j / k < l.length := (Nat.div_lt_iff_lt_mul i).2 b
 rw [get_flatK _ _ _ _ (by simpa using b)]
 have m : l.toArray[j / k]! = l[j / k] := by
  rw [getElem!_pos l.toArray (j / k) (by simpa using h1)]; simp
 rw [m]
 have d : j % k < (enc l[j / k]).length := by rw [hk]; exact Nat.mod_lt _ i
 have h := wL hk l (j / k) l[j / k] (dC h1) (j % k) ((enc l[j / k])[j % k]) (dC d)
 rw [Nat.div_add_mod' j k] at h
 rw [h, getElem!_pos (enc l[j / k]) (j % k) d]
theorem Hm {α : Type} [Inhabited α] {enc : α → List Value} {k : Nat} (hk : ∀ x, (enc x).length = k) {w : World} {g : Nat} {cs : Array Value} {T : TypeId} (d : w.heap[g]? = some (.cells cs T (0, 0))) (l : List α)
  (i : cs.toList.take (l.length * k) = (l.map enc).flatten) : HoldsK enc k w g 0 l.toArray := by
 intro j h
 have b : j < l.length * k := by simpa using h
 have h1 := JI hk l j b
 rw [← i, eV, aZ b] at h1
 refine ⟨?_, ?_⟩
 ·simp only [World.cell?, d, dI]
  simpa using h1
 ·simp [World.frozen?, d]
theorem Jh {α : Type} [Inhabited α] {enc : α → List Value} {k : Nat} (hk : ∀ x, (enc x).length = k) {cs : Array Value} (l : List α) (d : l.length * k ≤ cs.size) :
  (putCells id 0 (flatK enc k l.toArray) cs).toList.take (l.length * k) = (l.map enc).flatten := by
 apply eu
 intro j
 rw [eV]
 split
 ·rename_i b
  rw [JI hk l j b]
  simp only [putCells, dG, Array.getElem?_mapIdx, size_flatK, dw]
  rw [Array.getElem?_eq_getElem (by omega)]
  simp [b]
 ·rename_i b
  rw [fj (by rw [oW hk]; omega)]
theorem Hv (enc : Value → Value) (o : Nat) (d c : Array Value) : (putCells enc o d c).size = c.size := by simp [putCells]
section
variable {α : Type} {P : Program} {ρ : Ren}
theorem Qa {l : List α} {cf : α × α → Option Int} (h : Dg cf l) : SWO (ltOf fun (x y : {x // x ∈ l}) => (cf (x.1, y.1)).getD 0) ∧
  (∀ x y : {x // x ∈ l}, ltOf (fun (x y : {x // x ∈ l}) => (cf (x.1, y.1)).getD 0) x y = sD cf x.1 y.1) := by
 have e : ∀ x y : {x // x ∈ l}, ltOf (fun (x y : {x // x ∈ l}) => (cf (x.1, y.1)).getD 0) x y = sD cf x.1 y.1 := fun x y => by
  obtain ⟨c, j⟩ := h.is x.1 x.2 y.1 y.2
  simp [ltOf, sD, j]
 refine ⟨⟨fun x => ?_, fun x y z => ?_, fun x y z => ?_⟩, e⟩
 ·rw [e]; exact h.irrefl _ x.2
 ·rw [e, e, e]; exact h.trans _ x.2 _ y.2 _ z.2
 ·rw [e, e, e]
  intro h1 d
  cases b : sD cf x.1 z.1 with
  | false => rfl
  | true =>
   cases i : sD cf y.1 x.1 with
   | true =>
    have := h.trans _ y.2 _ x.2 _ z.2 i b
    rw [d] at this; cases this
   | false =>
    have := h.total _ x.2 _ y.2 h1 i
    rw [this, d] at b; cases b
theorem Jq (L : SlLaysF0.n6 P ρ) (k : Nat) (aE : ∀ w, (isAgg (ρ.t 24)).run P w = .ok true w) (zE : ∀ w, (Go.sizeOf (ρ.t 24)).run P w = .ok k w) {e : TypeId} (enc : α → List Value) (hk : ∀ x, (enc x).length = k) (h1 : ∀ x, ∀ u ∈ enc x, u.oneCell' = true) {v fv : Value} {l r : List α} {R : List (Nat × Obj)} {cf : α × α → Option Int} {w : World} {μ0 : jN} (hH : Dv (R ++ []) w) (E : jT μ0 (sR w (R ++ []))) (Z : jL e enc k v l R) (hc : IC P fv μ0 (fun (x : α × α) => [(.agg (enc x.1).toArray), (.agg (enc x.2).toArray)]) (fun (r : Int) => (.int .i64 r)) cf) (hm : yr cf l = some r) :
  kR true P (ρ.f 6) [v, fv] w (R ++ []) (fun u L1 _ => ∃ (S : List (Nat × Obj)), u = (.tuple #[]) ∧ L1 = (S ++ []) ∧ jL e enc k v r S) := by
 obtain ⟨ok, rfl⟩ := FY hm
 rw [bo] at hH E ⊢
 rcases ee l.length with h0 | j
 ·have hl : l = [] := aO h0
  subst hl
  have hs : rL cf ([] : List α) = [] := by simp [rL]
  rw [hs]
  obtain ⟨p, c, rfl⟩ : ∃ p c, v = .slice p 0 c := by
   rcases Z with ⟨rfl, _, _⟩ | ⟨g, cap, q, rfl, _⟩
   ·exact ⟨_, _, rfl⟩
   ·exact ⟨_, _, rfl⟩
  refine cW (AnyF.slices_SortFunc_none L p c fv w) fun x w' ⟨hx, hw⟩ => ?_
  subst hx hw
  refine ⟨_, R, rfl, ⟨⟨rfl, rfl, rfl, ry.of (aR _), aR _, fun _ _ _ => rfl⟩, fun b o h => ⟨hH b o h, .inr ⟨o, h⟩⟩, ?_⟩, R, rfl, (bo R).symm, Z⟩
  rcases Z with ⟨_, _, rfl⟩ | ⟨g, cap, q, _, rfl, _⟩ <;> simp
 ·rcases Z with ⟨_, rfl, _⟩ | ⟨g, cap, q, rfl, rfl, a8, a7, O, ae⟩
  ·simp at j
  have hg : w.heap[g]? = some (.cells q e (0, 0)) := hH g _ (by simp)
  have aa : g < w.heap.size := (dv.1 hg).1
  haveI : Inhabited {x // x ∈ l} := ⟨⟨l[0], List.getElem_mem j⟩⟩
  obtain ⟨gg, d, rfl, Q, z⟩ := hc
  obtain ⟨hO, T⟩ := Qa ok
  have G : l.attach.toArray.size = l.length := by simp
  have ab : l.attach.map (fun x => enc x.1) = l.map enc := by
   rw [show (fun x : {x // x ∈ l} => enc x.1) = enc ∘ Subtype.val from rfl, ← eA, List.attach_map_subtype_val]
  have a1 : HoldsK (fun x : {x // x ∈ l} => enc x.1) k w g 0 l.attach.toArray := Hm (fun x => hk x.1) hg l.attach (by rw [ab, List.length_attach, ae])
  have M : CmpLays P gg d (fun x : {x // x ∈ l} => enc x.1) k (fun x y => (cf (x.1, y.1)).getD 0) g 0 l.attach.toArray.size w := by
   intro m os dk ag x y
   obtain ⟨c, J⟩ := ok.is x.1 x.2 y.1 y.2
   have Y : jT μ0 (hp (sortWorldK (fun x : {x // x ∈ l} => enc x.1) k w g 0 m dk os)) := fun b o hb => by
    have A := E b o hb
    unfold sR at A
    split at A
    ·cases A
    ·rename_i hn
     have a6 : b < w.heap.size := (dv.1 A).1
     show (Go.Sort.grow (mapBlock (Go.Sort.ahead w m) g _) os).heap[b]? = _
     rw [AU _ _ _ _ _ _ a6, aY fun h => hn (EO.2 h.symm)]
     exact A
   have h3 := z (sortWorldK (fun x : {x // x ∈ l} => enc x.1) k w g 0 m dk os) (x.1, y.1) c Y J
   have ea : ([Value.agg (enc x.1).toArray, Value.agg (enc y.1).toArray] ++ d.toList).toArray = #[Value.agg (enc x.1).toArray, Value.agg (enc y.1).toArray] ++ d := by
    apply Array.ext'; simp
   rw [← ea]
   exact cW h3 fun u W' hu => ⟨by rw [hu.1]; show _ = Ending.returned (.int .i64 ((cf (x.1, y.1)).getD 0)); rw [J]; rfl, Kq hu.2⟩
  have hT : ∀ x y : {x // x ∈ l}, ltOf (fun (x y : {x // x ∈ l}) => (cf (x.1, y.1)).getD 0) x y = false → ltOf (fun (x y : {x // x ∈ l}) => (cf (x.1, y.1)).getD 0) y x = false → x = y := fun x y a b => by
   rw [T] at a b
   exact Subtype.ext (ok.total _ x.2 _ y.2 a b)
  have i := AnyQ.slices_SortFunc_total L k aE zE (fun x : {x // x ∈ l} => enc x.1) (fun x => hk x.1) (fun x => h1 x.1) (fun x y => (cf (x.1, y.1)).getD 0) hO gg d g 0 cap l.attach.toArray w Q M a1 aa (by rw [G]; exact ok.short) hT
  rw [G] at i
  refine cW i fun u w' ⟨hu, n, os, hw⟩ => ?_
  subst hu
  generalize hs : l.attach.toArray.toList.mergeSort (fun x y => !ltOf (fun (x y : {x // x ∈ l}) => (cf (x.1, y.1)).getD 0) y x) = s at hw
  have ad : s.map Subtype.val = rL cf l := by
   rw [← hs, gU (s := fun x y => !sD cf y x) (fun a _ b _ => by rw [T])]
   simp [rL]
  have W : s.length = l.length := by rw [← hs, List.length_mergeSort]; simp
  have U : (rL cf l).length = l.length := by simp [rL, List.length_mergeSort]
  have I := I8 (w := w) (m := n) (f := putCells id 0 (flatK (fun x : {x // x ∈ l} => enc x.1) k s.toArray)) (os := os) hg
  have af : w' = Go.Sort.grow (mapBlock (Go.Sort.ahead w n) g (putCells id 0 (flatK (fun x : {x // x ∈ l} => enc x.1) k s.toArray))) os := hw
  rw [← af] at I
  refine ⟨_, _, rfl, I, _, rfl, (bo _).symm, .inr ⟨g, cap, _, by rw [U], rfl, by omega, a7, by rw [Hv, O], ?_⟩⟩
  rw [U, ← W, Jh (fun x => hk x.1) s (by rw [W, O]; exact cN k a8), ← ad, eA]
  rfl
end
theorem Dp (b : ByteArray) : b.toList = b.data.toList := by rw [eP]
theorem Pn (l : List ByteArray) : (l.map B0).flatten = l.map Value.string := by
 induction l with
 | nil => rfl
 | cons x l ih => simp only [bF, bL, ih]; rfl
theorem MQ (l : List ByteArray) : (tz l).map (fun b => b.data.toList) = (l.map (fun b => b.data.toList)).mergeSort (fun x y => decide (x ≤ y)) := by
 unfold tz
 refine gU fun a _ b _ => ?_
 unfold pg
 rw [bytesLess_eq, Dp, Dp]
 by_cases h : a.data.toList ≤ b.data.toList
 ·have d : ¬ b.data.toList < a.data.toList := List.not_lt.2 h
  simp [h, d]
 ·have d : b.data.toList < a.data.toList := by
   cases Decidable.em (b.data.toList < a.data.toList) with
   | inl i => exact i
   | inr i => exact absurd (List.not_lt.1 i) h
  simp [h, d]
end Go.Proofs.YtjjjihkifgdhgaaGreatDoor
namespace Go.Proofs.YtjjjihkifgdhgaaGreatDoor
open Go.IntKind renaming wrap → wi0
open Go.WideElems Go.WideShapes Go.Sort Go.Proofs Go.Shelf
theorem Jb {β : Type} {vf : β → Value} {P : Program} {kt : TypeId} (G : P.underlying kt = some .string) {l : List (ByteArray × β)} {es : Array MapEntry} {clock : Nat} (h : te Value.string vf l es clock) (A : (l.map (·.1)).Nodup) (E : ∀ p ∈ l, p.1.size ≤ maxLen) (z : l.length ≤ maxLen) {W : World} {b : Nat} (y : W.heap[b]? = some (.map es clock)) : ∃ D : DataW Unit, W.ownsMap P kt (fun _ => some (.lit (.bool true), [])) b es.size D ∧ (strKeys D).Perm (l.map (fun p => p.1.data.toList)) ∧ Maps.size D = l.length := by
 have d := h.keys
 have r : ∀ x ∈ es.toList, ∃ s : ByteArray, x.key = .string s ∧ s.size ≤ maxLen := fun x m => by
  have h1 : x.key ∈ es.toList.map (·.key) := bH.2 ⟨x, m, rfl⟩
  rw [d] at h1
  obtain ⟨s, j, n⟩ := bH.1 h1
  obtain ⟨p, u, w⟩ := bH.1 j
  exact ⟨s, n.symm, by rw [← w]; exact E p u⟩
 have i : ∀ x ∈ es.toList, ∃ s : ByteArray, x.key = .string s ∧ Go.WideElems.rd (H := Unit) P kt (fun _ => some (.lit (.bool true), [])) x = some (.string s.data.toList, .lit (.bool true)) := fun x m => by
  obtain ⟨s, h1, j⟩ := r x m
  refine ⟨s, h1, ?_⟩
  simp [Go.WideElems.rd, keyOf, G, mapKey, h1, j]
 refine ⟨_, ⟨es, clock, y, ⟨by rw [h.length]; exact z, ⟨h.lt, ?_, ?_⟩, fun x m => ?_⟩, aR _, rfl⟩, ?_, ?_⟩
 ·have := h.born
  rw [List.Nodup, fl]
  exact this.imp (fun {a b} h => by omega)
 ·rw [d]
  rw [List.Nodup, fl]
  exact A.imp (fun {a b} q e => q (by injection e))
 ·obtain ⟨s, _, j⟩ := i x m
  exact ⟨_, j⟩
 ·have h1 := (sorted_perm (es.toList.map (Go.WideElems.rg (H := Unit) P kt (fun _ => some (.lit (.bool true), []))))).map (fun p => strOf p.1)
  refine List.Perm.trans h1 ?_
  have e : (es.toList.map (Go.WideElems.rg (H := Unit) P kt (fun _ => some (.lit (.bool true), [])))).map (fun p => strOf p.1) = l.map (fun p => p.1.data.toList) := by
   have t : (es.toList.map (Go.WideElems.rg (H := Unit) P kt (fun _ => some (.lit (.bool true), [])))).map (fun p => strOf p.1) = (es.toList.map (·.key)).map (fun v => match v with | .string s => s.data.toList | _ => []) := by
    rw [eA, eA]
    refine List.map_congr_left fun x m => ?_
    obtain ⟨s, j, n⟩ := i x m
    simp [Go.WideElems.rg, n, j, strOf]
   rw [t, d, eA, eA]
   rfl
  rw [e]
 ·have h1 := (sorted_perm (es.toList.map (Go.WideElems.rg (H := Unit) P kt (fun _ => some (.lit (.bool true), []))))).length_eq
  show (List.foldr DataW.insert [] _).length = _
  rw [h1, cZ, ← h.length]
  simp
theorem Hp {l : List ByteArray} {i : List (List UInt8)} (h : i.Perm (l.map fun b => b.data.toList)) : i.mergeSort (fun x y => decide (x ≤ y)) = (tz l).map (fun b => b.data.toList) := by
 rw [MQ]
 have le : ∀ a b c : List UInt8, decide (a ≤ b) = true → decide (b ≤ c) = true → decide (a ≤ c) = true := fun a b c h1 d => by
  simp only [bE] at *
  exact List.le_trans h1 d
 have tot : ∀ a b : List UInt8, (decide (a ≤ b) || decide (b ≤ a)) = true := fun a b => by
  simp only [fa, bE]
  exact List.le_total a b
 refine List.Perm.eq_of_pairwise (le := fun a b => decide (a ≤ b) = true) (fun a b _ _ h1 d => List.le_antisymm (by simpa using h1) (by simpa using d)) (fV le tot _) (fV le tot _) ?_
 exact (gK _ _).trans (h.trans (gK _ _).symm)
section
variable {P : Program} {ρk ρt ρm : Ren}
theorem I7 (LK : SlLaysZ.n7 P ρk) (LT : SlLaysZ.n6 P ρt) (LM : SlLaysM.n6 P ρm) (h9 : ρt.f 9 = ρm.f 6) (hK : P.underlying (ρk.t 26) = some .string) (eg : ∀ args w, (callFunc (ρk.f 10) args).run P w = .ok (.enter (ρk.f 10) args) w) (es : ∀ args w, (callFunc (ρt.f 9) args).run P w = .ok (.enter (ρt.f 9) args) w) {β : Type} {vf : β → Value} {l : List (ByteArray × β)} {b : Nat} {mv : Value} {t : TypeId} {W : World} {r : List ByteArray} (E : W.heap[b]? = some (.cells #[mv] t (0, 0))) (hm : uL Value.string vf (hp W) mv l) (hk : E4 l = some r) :
  mi false P (ρt.f 6) [.func (.func (ρk.f 10)) #[] #[.pointer (some ⟨b, 0, none⟩)]] W (ρt.t 26) B0 1 r := by
 unfold E4 at hk
 split at hk
 case isFalse => cases hk
 rename_i hc
 obtain ⟨Z, a1, a6⟩ := hc
 cases hk
 have n : b < W.heap.size := (dv.1 E).1
 have i : W.cell? ⟨b, 0, none⟩ = some mv := by simp [World.cell?, E]
 have z : AnyZ.SortsIn P ρt Fence.wide 4 :=
  ⟨fun R off cap j W hH hblk A => iP.2 (by rw [h9]; exact AnyM.slices_Sort_string LM R off cap j W hH hblk A), fun p cap W => iP.2 (by rw [h9]; exact AnyM.slices_Sort_string_none LM p cap W)⟩
 have O : SeqGives Fence.wide 2 P (ρk.f 10) #[.pointer (some ⟨b, 0, none⟩)] encStr (fun j => j.Perm ((l.map (·.1)).map fun b => b.data.toList)) l.length W := by
  rcases hm with ⟨rfl, rfl⟩ | ⟨m, es, clock, rfl, aa, I⟩
  ·have := AnyZ.keys_gives_nil (ρ := ρk) { LK with } Fence.wide 2 trivial rfl b W n i
   intro l' J W' U T Y Q
   refine CallsIn.mono (this l' J W' U T Y Q) ?_
   rintro e w' ⟨hv, j, rfl, hj⟩
   exact ⟨hv, [], bW _, hj⟩
  ·obtain ⟨D, L, u, A⟩ := Jb hK I Z a1 (by unfold maxLen; omega) aa
   have := AnyZ.keys_gives (ρ := ρk) { LK with } Fence.wide 2 trivial rfl (by omega) b m es.size D W n i L
   intro l' J W' U T Y Q
   refine CallsIn.mono (this l' J W' U T (by rw [A]; exact Y) Q) ?_
   rintro e w' ⟨hv, j, hp, hj⟩
   refine ⟨hv, j, ?_, hj⟩
   rw [eA]
   exact hp.trans u
 have cS := AnyZ.sorted_in LT Fence.wide 5 trivial trivial trivial trivial rfl (by omega) z es (ρk.f 10) #[.pointer (some ⟨b, 0, none⟩)] trivial eg _ l.length (by unfold maxLen; omega) a6 W O
 refine cW (iP.1 cS) ?_
 rintro e w' ⟨v, j, rfl, hS, M, ad, d⟩
 have hs := Hp hS
 have hlen : j.length = (tz (l.map (·.1))).length := by
  have := bA List.length hs
  simpa using this
 have s : (j.mergeSort (fun x y => decide (x ≤ y))).map encStr = ((tz (l.map (·.1))).map B0).flatten := by
  rw [hs, Pn, eA]
  refine List.map_congr_left (fun x _ => ?_)
  simp only [Function.comp, encStr]
 rcases M.2 with ⟨rfl, Q⟩ | ⟨g, cap, G, rfl, q, hg, ae, a7, a8, ab⟩
 ·have : tz (l.map (·.1)) = [] := aO (by omega)
  rw [this]
  exact ⟨_, [], rfl, si.Hy ⟨d.os, d.tape, d.output, fun h => (by cases h), d.size, fun b E => d.block b E⟩ (fun _ _ h => by cases h) (by simp), jL.nil _ _ _⟩
 ·refine ⟨_, [(g, .cells G (ρt.t 26) (0, 0))], rfl, si.Hy ⟨d.os, d.tape, d.output, fun h => (by cases h), d.size, fun b E => d.block b E⟩ (fun b o h => by simp at h; obtain ⟨rfl, rfl⟩ := h; exact ⟨hg, q⟩) (by simp), .inr ⟨g, cap, G, by rw [hlen], rfl, by omega, a7, a8, ?_⟩⟩
  rw [← hlen, ab, s]
end
end Go.Proofs.YtjjjihkifgdhgaaGreatDoor
namespace Go.Proofs.YtjjjihkifgdhgaaGreatDoor
open Go.IntKind renaming wrap → wi0
open Go.RowKit
theorem Ld {P : Program} {ρ : Go.Shelf.Ren} (L : Go.Proofs.LaysM.n171 P ρ) {f : FuncId} (m : ρ.f 171 = f) {n : Int} {r : ByteArray} {w : World} (p : BR P (hp w)) (hm : yo n = some r) : kf true P f [.int .i64 n] w (.string r) := by
 unfold yo at hm
 split at hm
 case isFalse => cases hm
 rename_i h
 cases hm
 subst m
 obtain ⟨g, T, fr, h1, i⟩ := p
 have d : Go.Lib.TabIs P w "internal/strconv.uint64pow10" .u64 Go.Lib.pow10Tab := by
  unfold Go.Lib.TabIs World.var?
  have j : w.heap[g]? = _ := i
  rw [h1]
  simp [j]
 refine cW (Go.Proofs.Any.strconv_Itoa L n h.1 h.2 w d) fun e W q => ?_
 obtain ⟨rfl, k, os, rfl⟩ := q
 refine ⟨rfl, rfl, rfl, rfl, ry.of ?_, ?_, fun b l => ?_⟩
 ·simp [Go.Sort.grow, World.drewN]
 ·simp [Go.Sort.grow, World.drewN]
 ·simp only [Go.Sort.grow, World.drewN]
  rw [Array.getElem?_append_left l]
end Go.Proofs.YtjjjihkifgdhgaaGreatDoor
namespace Go.Proofs.YtjjjihkifgdhgaaGreatDoor
open Go.IntKind renaming wrap → wi0
def eT := @Tryz.underlying9
def fb := @Tryz.zeroValue9
def fA := @Tryz.underlying0
def fP := @Tryz.zeroValue0
def gk := @Tryz.sizeOf9
def gw := @Tryz.underlying4
def gC := @Tryz.isAgg9
def gH := @Tryz.zeroValue4
def gN := @Tryz.sizeOf0
def gV := @Tryz.underlying271
def gW := @Tryz.underlying332
def gY := @Tryz.underlying272
def gZ := @Tryz.underlying152
def iu := @Tryz.isAgg0
def iv := @Tryz.zeroValue271
def iw := @Tryz.zeroValue332
def iy := @Tryz.zeroValue272
def iz := @Tryz.zeroValue152
def iJ := @Tryz.underlying3
def iK := @Tryz.underlying5
def iQ := @Tryz.sizeOf4
def iY := @Tryz.zeroValue3
def iZ := @Tryz.zeroValue5
def jd := @Tryz.isAgg4
def Mw : Go.Shelf.Ren := ⟨fun | 6 => 198 | 15 => 260 | 14 => 259 | 28 => 319 | 29 => 307 | 20 => 311 | 21 => 312 | 22 => 313 | 23 => 314 | 24 => 315 | 25 => 316 | 26 => 317 | 27 => 318 | 46 => 356 | 47 => 357 | 48 => 358 | 49 => 359 | 50 => 360 | 57 => 377 | n => n, fun | 22 => 45 | 24 => 52 | 25 => 138 | 3 => 3 | 39 => 271 | 0 => 0 | 53 => 332 | 55 => 272 | 4 => 4 | 46 => 336 | 45 => 335 | 50 => 340 | 5 => 5 | 9 => 9 | 66 => 371 | 70 => 375 | 76 => 392 | 77 => 248 | n => n, fun | n => n⟩
theorem QI : Go.Proofs.SlLaysF0.n6 Tryz.prog Mw := {
 mixed := by kernel_rfl,
 f6 := ⟨Tryz.f198.name, by decide, Tryz.func198.trans (bA some (by kernel_rfl))⟩,
 f14 := ⟨Tryz.f259.name, by decide, Tryz.func259.trans (bA some (by kernel_rfl))⟩,
 f15 := Tryz.func260.trans (bA some (by kernel_rfl)),
 f20 := ⟨Tryz.f311.name, by decide, Tryz.func311.trans (bA some (by kernel_rfl))⟩,
 f21 := ⟨Tryz.f312.name, by decide, Tryz.func312.trans (bA some (by kernel_rfl))⟩,
 f22 := ⟨Tryz.f313.name, by decide, Tryz.func313.trans (bA some (by kernel_rfl))⟩,
 f23 := ⟨Tryz.f314.name, by decide, Tryz.func314.trans (bA some (by kernel_rfl))⟩,
 f24 := ⟨Tryz.f315.name, by decide, Tryz.func315.trans (bA some (by kernel_rfl))⟩,
 f25 := ⟨Tryz.f316.name, by decide, Tryz.func316.trans (bA some (by kernel_rfl))⟩,
 f26 := ⟨Tryz.f317.name, by decide, Tryz.func317.trans (bA some (by kernel_rfl))⟩,
 f27 := ⟨Tryz.f318.name, by decide, Tryz.func318.trans (bA some (by kernel_rfl))⟩,
 f28 := Tryz.func319.trans (bA some (by kernel_rfl)),
 f29 := Tryz.func307.trans (bA some (by kernel_rfl)),
 f46 := ⟨Tryz.f356.name, by decide, Tryz.func356.trans (bA some (by kernel_rfl))⟩,
 f47 := Tryz.func357.trans (bA some (by kernel_rfl)),
 f48 := Tryz.func358.trans (bA some (by kernel_rfl)),
 f49 := ⟨Tryz.f359.name, by decide, Tryz.func359.trans (bA some (by kernel_rfl))⟩,
 f50 := ⟨Tryz.f360.name, by decide, Tryz.func360.trans (bA some (by kernel_rfl))⟩,
 f57 := ⟨Tryz.f377.name, by decide, Tryz.func377.trans (bA some (by kernel_rfl))⟩,
 t0 := fA,
 a0 := iu,
 z0 := gN,
 v0 := fP,
 t3 := iJ,
 a3 := Tryz.isAgg3,
 z3 := Tryz.sizeOf3,
 v3 := iY,
 t4 := gw,
 a4 := jd,
 z4 := iQ,
 v4 := gH,
 t5 := iK,
 a5 := Tryz.isAgg5,
 z5 := Tryz.sizeOf5,
 v5 := iZ,
 t9 := eT,
 a9 := gC,
 z9 := gk,
 v9 := fb,
 t22 := Tryz.underlying45,
 a22 := Tryz.isAgg45,
 z22 := Tryz.sizeOf45,
 v22 := Tryz.zeroValue45,
 t25 := Tryz.underlying138,
 a25 := Tryz.isAgg138,
 z25 := Tryz.sizeOf138,
 v25 := Tryz.zeroValue138,
 t39 := gV,
 a39 := Tryz.isAgg271,
 z39 := Tryz.sizeOf271,
 v39 := iv,
 t45 := Tryz.underlying335,
 a45 := Tryz.isAgg335,
 z45 := Tryz.sizeOf335,
 v45 := Tryz.zeroValue335,
 t46 := Tryz.underlying336,
 a46 := Tryz.isAgg336,
 z46 := Tryz.sizeOf336,
 v46 := Tryz.zeroValue336,
 t50 := Tryz.underlying340,
 a50 := Tryz.isAgg340,
 z50 := Tryz.sizeOf340,
 v50 := Tryz.zeroValue340,
 t53 := gW,
 a53 := Tryz.isAgg332,
 z53 := Tryz.sizeOf332,
 v53 := iw,
 t55 := gY,
 a55 := Tryz.isAgg272,
 z55 := Tryz.sizeOf272,
 v55 := iy,
 t66 := Tryz.underlying371,
 a66 := Tryz.isAgg371,
 z66 := Tryz.sizeOf371,
 v66 := Tryz.zeroValue371,
 t70 := Tryz.underlying375,
 a70 := Tryz.isAgg375,
 z70 := Tryz.sizeOf375,
 v70 := Tryz.zeroValue375,
 t76 := Tryz.underlying392,
 a76 := Tryz.isAgg392,
 z76 := Tryz.sizeOf392,
 v76 := Tryz.zeroValue392,
 t77 := Tryz.underlying248,
 a77 := Tryz.isAgg248,
 z77 := Tryz.sizeOf248,
 v77 := Tryz.zeroValue248}
def Pt : Go.Shelf.Ren := ⟨fun | 6 => 379 | 8 => 260 | 9 => 387 | 19 => 319 | 20 => 307 | 21 => 391 | 22 => 392 | 23 => 393 | 24 => 394 | 25 => 395 | 26 => 396 | 27 => 397 | 28 => 398 | 29 => 399 | 36 => 401 | 31 => 357 | 32 => 358 | 37 => 402 | 38 => 403 | 39 => 404 | 41 => 405 | n => n, fun | 27 => 152 | 29 => 9 | 3 => 3 | 32 => 271 | 26 => 152 | 0 => 0 | 44 => 332 | 46 => 272 | 4 => 4 | 36 => 336 | 35 => 335 | 41 => 340 | 5 => 5 | 9 => 9 | 53 => 371 | 57 => 375 | 63 => 392 | 64 => 248 | n => n, fun | n => n⟩
theorem PH : Go.Proofs.SlLaysM.n6 Tryz.prog Pt := {
 mixed := by kernel_rfl,
 f6 := ⟨Tryz.f379.name, by decide, Tryz.func379.trans (bA some (by kernel_rfl))⟩,
 f8 := Tryz.func260.trans (bA some (by kernel_rfl)),
 f9 := ⟨Tryz.f387.name, by decide, Tryz.func387.trans (bA some (by kernel_rfl))⟩,
 f19 := Tryz.func319.trans (bA some (by kernel_rfl)),
 f20 := Tryz.func307.trans (bA some (by kernel_rfl)),
 f21 := ⟨Tryz.f391.name, by decide, Tryz.func391.trans (bA some (by kernel_rfl))⟩,
 f22 := ⟨Tryz.f392.name, by decide, Tryz.func392.trans (bA some (by kernel_rfl))⟩,
 f23 := ⟨Tryz.f393.name, by decide, Tryz.func393.trans (bA some (by kernel_rfl))⟩,
 f24 := ⟨Tryz.f394.name, by decide, Tryz.func394.trans (bA some (by kernel_rfl))⟩,
 f25 := ⟨Tryz.f395.name, by decide, Tryz.func395.trans (bA some (by kernel_rfl))⟩,
 f26 := ⟨Tryz.f396.name, by decide, Tryz.func396.trans (bA some (by kernel_rfl))⟩,
 f27 := ⟨Tryz.f397.name, by decide, Tryz.func397.trans (bA some (by kernel_rfl))⟩,
 f28 := ⟨Tryz.f398.name, by decide, Tryz.func398.trans (bA some (by kernel_rfl))⟩,
 f29 := ⟨Tryz.f399.name, by decide, Tryz.func399.trans (bA some (by kernel_rfl))⟩,
 f31 := Tryz.func357.trans (bA some (by kernel_rfl)),
 f32 := Tryz.func358.trans (bA some (by kernel_rfl)),
 f36 := ⟨Tryz.f401.name, by decide, Tryz.func401.trans (bA some (by kernel_rfl))⟩,
 f37 := ⟨Tryz.f402.name, by decide, Tryz.func402.trans (bA some (by kernel_rfl))⟩,
 f38 := ⟨Tryz.f403.name, by decide, Tryz.func403.trans (bA some (by kernel_rfl))⟩,
 f39 := ⟨Tryz.f404.name, by decide, Tryz.func404.trans (bA some (by kernel_rfl))⟩,
 f41 := ⟨Tryz.f405.name, by decide, Tryz.func405.trans (bA some (by kernel_rfl))⟩,
 t0 := fA,
 a0 := iu,
 z0 := gN,
 v0 := fP,
 t3 := iJ,
 a3 := Tryz.isAgg3,
 z3 := Tryz.sizeOf3,
 v3 := iY,
 t4 := gw,
 a4 := jd,
 z4 := iQ,
 v4 := gH,
 t5 := iK,
 a5 := Tryz.isAgg5,
 z5 := Tryz.sizeOf5,
 v5 := iZ,
 t9 := eT,
 a9 := gC,
 z9 := gk,
 v9 := fb,
 t26 := gZ,
 a26 := Tryz.isAgg152,
 z26 := Tryz.sizeOf152,
 v26 := iz,
 t27 := gZ,
 a27 := Tryz.isAgg152,
 z27 := Tryz.sizeOf152,
 v27 := iz,
 t29 := eT,
 a29 := gC,
 z29 := gk,
 v29 := fb,
 t32 := gV,
 a32 := Tryz.isAgg271,
 z32 := Tryz.sizeOf271,
 v32 := iv,
 t35 := Tryz.underlying335,
 a35 := Tryz.isAgg335,
 z35 := Tryz.sizeOf335,
 v35 := Tryz.zeroValue335,
 t36 := Tryz.underlying336,
 a36 := Tryz.isAgg336,
 z36 := Tryz.sizeOf336,
 v36 := Tryz.zeroValue336,
 t41 := Tryz.underlying340,
 a41 := Tryz.isAgg340,
 z41 := Tryz.sizeOf340,
 v41 := Tryz.zeroValue340,
 t44 := gW,
 a44 := Tryz.isAgg332,
 z44 := Tryz.sizeOf332,
 v44 := iw,
 t46 := gY,
 a46 := Tryz.isAgg272,
 z46 := Tryz.sizeOf272,
 v46 := iy,
 t53 := Tryz.underlying371,
 a53 := Tryz.isAgg371,
 z53 := Tryz.sizeOf371,
 v53 := Tryz.zeroValue371,
 t57 := Tryz.underlying375,
 a57 := Tryz.isAgg375,
 z57 := Tryz.sizeOf375,
 v57 := Tryz.zeroValue375,
 t63 := Tryz.underlying392,
 a63 := Tryz.isAgg392,
 z63 := Tryz.sizeOf392,
 v63 := Tryz.zeroValue392,
 t64 := Tryz.underlying248,
 a64 := Tryz.isAgg248,
 z64 := Tryz.sizeOf248,
 v64 := Tryz.zeroValue248}
def OJ : Go.Shelf.Ren := ⟨fun | 7 => 362 | 10 => 380 | n => n, fun | 23 => 247 | 26 => 9 | 3 => 4 | 28 => 379 | 0 => 0 | 27 => 378 | 33 => 148 | 4 => 4 | n => n, fun | n => n⟩
theorem O9 : Go.Proofs.SlLaysZ.n7 Tryz.prog OJ := {
 mixed := by kernel_rfl,
 f7 := ⟨Tryz.f362.name, by decide, Tryz.func362.trans (bA some (by kernel_rfl))⟩,
 f10 := ⟨Tryz.f380.name, by decide, Tryz.func380.trans (bA some (by kernel_rfl))⟩,
 t0 := fA,
 a0 := iu,
 z0 := gN,
 v0 := fP,
 t4 := gw,
 a4 := jd,
 z4 := iQ,
 v4 := gH,
 t23 := Tryz.underlying247,
 a23 := Tryz.isAgg247,
 z23 := Tryz.sizeOf247,
 v23 := Tryz.zeroValue247,
 t26 := eT,
 a26 := gC,
 z26 := gk,
 v26 := fb,
 t27 := Tryz.underlying378,
 a27 := Tryz.isAgg378,
 z27 := Tryz.sizeOf378,
 v27 := Tryz.zeroValue378,
 t28 := Tryz.underlying379,
 a28 := Tryz.isAgg379,
 z28 := Tryz.sizeOf379,
 v28 := Tryz.zeroValue379,
 t33 := Tryz.underlying148,
 a33 := Tryz.isAgg148,
 z33 := Tryz.sizeOf148,
 v33 := Tryz.zeroValue148}
def Oq : Go.Shelf.Ren := ⟨fun | 6 => 361 | 8 => 378 | 9 => 379 | 11 => 386 | 13 => 260 | 12 => 387 | 23 => 319 | 24 => 307 | 14 => 391 | 15 => 392 | 16 => 393 | 17 => 394 | 18 => 395 | 19 => 396 | 20 => 397 | 21 => 398 | 22 => 399 | 25 => 401 | 26 => 357 | 27 => 358 | 28 => 402 | 29 => 403 | 30 => 404 | 31 => 405 | n => n, fun | 26 => 9 | 28 => 379 | 24 => 152 | 0 => 0 | 3 => 3 | 37 => 271 | 48 => 332 | 50 => 272 | 4 => 4 | 40 => 336 | 39 => 335 | 45 => 340 | 5 => 5 | 9 => 9 | 51 => 371 | 55 => 375 | 57 => 392 | 58 => 248 | 33 => 148 | n => n, fun | n => n⟩
theorem Ot : Go.Proofs.SlLaysZ.n6 Tryz.prog Oq := {
 mixed := by kernel_rfl,
 f6 := ⟨Tryz.f361.name, by decide, Tryz.func361.trans (bA some (by kernel_rfl))⟩,
 f8 := ⟨Tryz.f378.name, by decide, Tryz.func378.trans (bA some (by kernel_rfl))⟩,
 f11 := ⟨Tryz.f386.name, by decide, Tryz.func386.trans (bA some (by kernel_rfl))⟩,
 t0 := fA,
 a0 := iu,
 z0 := gN,
 v0 := fP,
 t24 := gZ,
 a24 := Tryz.isAgg152,
 z24 := Tryz.sizeOf152,
 v24 := iz,
 t26 := eT,
 a26 := gC,
 z26 := gk,
 v26 := fb,
 t28 := Tryz.underlying379,
 a28 := Tryz.isAgg379,
 z28 := Tryz.sizeOf379,
 v28 := Tryz.zeroValue379,
 i26 := by kernel_rfl}
def Qq : Go.Shelf.Ren := ⟨fun | 171 => 50 | 243 => 122 | 246 => 190 | 283 => 250 | 284 => 251 | 285 => 252 | 286 => 253 | 129 => 307 | 317 => 306 | 318 => 308 | 319 => 309 | 320 => 310 | 337 => 354 | 338 => 355 | n => n, fun | 3 => 3 | 9 => 9 | 2 => 2 | 4 => 4 | 171 => 291 | 0 => 0 | 53 => 272 | 37 => 53 | 5 => 5 | 173 => 294 | 212 => 331 | 51 => 332 | 20 => 20 | 213 => 333 | 46 => 271 | 232 => 390 | 233 => 391 | n => n, fun | 17 => 3 | 18 => 4 | 19 => 5 | n => n⟩
theorem PF : Go.Proofs.LaysM.n171 Tryz.prog Qq := {
 mixed := by kernel_rfl,
 f129 := Tryz.func307.trans (bA some (by kernel_rfl)),
 f171 := Tryz.func50.trans (bA some (by kernel_rfl)),
 f243 := Tryz.func122.trans (bA some (by kernel_rfl)),
 f246 := Tryz.func190.trans (bA some (by kernel_rfl)),
 f283 := Tryz.func250.trans (bA some (by kernel_rfl)),
 f284 := Tryz.func251.trans (bA some (by kernel_rfl)),
 f285 := Tryz.func252.trans (bA some (by kernel_rfl)),
 f286 := Tryz.func253.trans (bA some (by kernel_rfl)),
 f317 := Tryz.func306.trans (bA some (by kernel_rfl)),
 f318 := Tryz.func308.trans (bA some (by kernel_rfl)),
 f319 := Tryz.func309.trans (bA some (by kernel_rfl)),
 f320 := Tryz.func310.trans (bA some (by kernel_rfl)),
 f337 := Tryz.func354.trans (bA some (by kernel_rfl)),
 f338 := Tryz.func355.trans (bA some (by kernel_rfl)),
 t0 := fA,
 a0 := iu,
 z0 := gN,
 v0 := fP,
 t2 := Tryz.underlying2,
 a2 := Tryz.isAgg2,
 z2 := Tryz.sizeOf2,
 v2 := Tryz.zeroValue2,
 t3 := iJ,
 a3 := Tryz.isAgg3,
 z3 := Tryz.sizeOf3,
 v3 := iY,
 t4 := gw,
 a4 := jd,
 z4 := iQ,
 v4 := gH,
 t5 := iK,
 a5 := Tryz.isAgg5,
 z5 := Tryz.sizeOf5,
 v5 := iZ,
 t9 := eT,
 a9 := gC,
 z9 := gk,
 v9 := fb,
 t20 := Tryz.underlying20,
 a20 := Tryz.isAgg20,
 z20 := Tryz.sizeOf20,
 v20 := Tryz.zeroValue20,
 t37 := Tryz.underlying53,
 a37 := Tryz.isAgg53,
 z37 := Tryz.sizeOf53,
 v37 := Tryz.zeroValue53,
 t46 := gV,
 a46 := Tryz.isAgg271,
 z46 := Tryz.sizeOf271,
 v46 := iv,
 t51 := gW,
 a51 := Tryz.isAgg332,
 z51 := Tryz.sizeOf332,
 v51 := iw,
 t53 := gY,
 a53 := Tryz.isAgg272,
 z53 := Tryz.sizeOf272,
 v53 := iy,
 t171 := Tryz.underlying291,
 a171 := Tryz.isAgg291,
 z171 := Tryz.sizeOf291,
 v171 := Tryz.zeroValue291,
 t173 := Tryz.underlying294,
 a173 := Tryz.isAgg294,
 z173 := Tryz.sizeOf294,
 v173 := Tryz.zeroValue294,
 t212 := Tryz.underlying331,
 a212 := Tryz.isAgg331,
 z212 := Tryz.sizeOf331,
 v212 := Tryz.zeroValue331,
 t213 := Tryz.underlying333,
 a213 := Tryz.isAgg333,
 z213 := Tryz.sizeOf333,
 t232 := Tryz.underlying390,
 a232 := Tryz.isAgg390,
 z232 := Tryz.sizeOf390,
 v232 := Tryz.zeroValue390,
 t233 := Tryz.underlying391,
 a233 := Tryz.isAgg391,
 z233 := Tryz.sizeOf391,
 v233 := Tryz.zeroValue391,
 g17 := by kernel_rfl,
 g18 := by kernel_rfl,
 g19 := by kernel_rfl,
 i0 := by kernel_rfl,
 i2 := by kernel_rfl,
 i3 := by kernel_rfl,
 i4 := by kernel_rfl,
 i5 := by kernel_rfl,
 i9 := by kernel_rfl,
 i20 := by kernel_rfl,
 i37 := by kernel_rfl,
 i46 := by kernel_rfl,
 i51 := by kernel_rfl,
 i53 := by kernel_rfl,
 i171 := by kernel_rfl,
 i173 := by kernel_rfl,
 i212 := by kernel_rfl,
 i232 := by kernel_rfl,
 i233 := by kernel_rfl,
 m17 := by kernel_rfl,
 m18 := by kernel_rfl,
 m19 := by kernel_rfl}
end Go.Proofs.YtjjjihkifgdhgaaGreatDoor
namespace Go.Proofs.YtjjjihkifgdhgaaGreatDoor
open Go.IntKind renaming wrap → wi0
open Go.RowKit
set_option maxRecDepth 10000
noncomputable section
structure jl where
 jo : ByteArray
 Word : ByteArray
def jw (x : jl) : List Value := [.string x.jo, .string x.Word]
def jG (x y : jl) : Bool := (kv x.jo y.jo) && ((kv x.Word y.Word) && true)
theorem jH {x y : jl} : jG x y = true ↔ x = y := by
 cases x; cases y; simp [jG, lH]
theorem BB (x : jl) : (jw x).length = 2 := rfl
theorem xa (x : jl) : ∀ u ∈ jw x, u.oneCell' = true := by
 intro u hu
 simp only [jw, aK, cV, eS] at hu
 rcases hu with rfl | rfl <;> rfl
structure jm where
 Kind : Int
 Head : jl
 ke : ByteArray
 B : jl
 C : jl
 kp : ByteArray
def js (x : jm) : List Value := [.int .i64 x.Kind, .string x.Head.jo, .string x.Head.Word, .string x.ke, .string x.B.jo, .string x.B.Word, .string x.C.jo, .string x.C.Word, .string x.kp]
def ko (x y : jm) : Bool := (x.Kind == y.Kind) && ((jG x.Head y.Head) && ((kv x.ke y.ke) && ((jG x.B y.B) && ((jG x.C y.C) && ((kv x.kp y.kp) && true)))))
theorem pd {x y : jm} : ko x y = true ↔ x = y := by
 cases x; cases y; simp [ko, lH, jH]
theorem kP (x : jm) : (js x).length = 9 := rfl
theorem oR (x : jm) : ∀ u ∈ js x, u.oneCell' = true := by
 intro u hu
 simp only [js, aK, cV, eS] at hu
 rcases hu with rfl | rfl | rfl | rfl | rfl | rfl | rfl | rfl | rfl <;> rfl
structure jz where
 jl : jl
 ke : ByteArray
def ll (x : jz) : List Value := [.string x.jl.jo, .string x.jl.Word, .string x.ke]
def zw (x y : jz) : Bool := (jG x.jl y.jl) && ((kv x.ke y.ke) && true)
theorem vT {x y : jz} : zw x y = true ↔ x = y := by
 cases x; cases y; simp [zw, lH, jH]
theorem wV (x : jz) : (ll x).length = 3 := rfl
theorem JA (x : jz) : ∀ u ∈ ll x, u.oneCell' = true := by
 intro u hu
 simp only [ll, aK, cV, eS] at hu
 rcases hu with rfl | rfl | rfl <;> rfl
structure xR where
 Fh : Int
 FE : Int
def FR (x : xR) : List Value := [.int .i64 x.Fh, .int .i64 x.FE]
structure kc where
 e : Int
def kN (x : kc) : List Value := [.int .i64 x.e]
structure mu where
 QF : Bool
structure Key where
 ke : ByteArray
 Key : List Int
structure Signed where
 jm : jm
 Tag : List Int
structure Formula where
 Op : Int
 K : Int
 jl : jl
 Kids : List Formula
structure kK where
 Signed : Signed
 ju : Formula
structure nh where
 jl : jl
 ju : Formula
 lx : List jm
structure jQ where
 Name : ByteArray
 jA : List kK
 jO : List nh
structure oH where
 jo : jQ
 Client : jQ
 Formula : Formula
 zH : Int
 qT : xR
 tD : Int
 xl : Int
 uV : Int
 Keys : List Key
def nJ (a0 : ByteArray) (b : Int) : Option Int :=
 some (vG a0 b)
def qj (a0 : ByteArray) (b : Int) : Option Int :=
 ((nJ a0 b).bind fun d => some d)
def tu  : List Int → Option Bool
 | [] => some true
 | h :: b => ((qj (⟨#[97, 98, 99, 100, 101, 102, 103, 104, 105, 106, 107, 108, 109, 110, 111, 112, 113, 114, 115, 116, 117, 118, 119, 120, 121, 122, 48, 49, 50, 51, 52, 53, 54, 55, 56, 57, 45]⟩ : ByteArray) h).bind fun d => (if (decide (d < 0)) then some false else (tu b)))
def AP (a0 : ByteArray) : Option Bool :=
 ((BI a0).bind fun b => tu b)
def qM (a0 : ByteArray) : Option Bool :=
 ((if (decide ((a0.size : Int) ≥ 1)) then some (decide ((a0.size : Int) ≤ 16)) else some false).bind fun x2 => ((if x2 then ((yZ a0 0).bind fun b => ((qj (⟨#[97, 98, 99, 100, 101, 102, 103, 104, 105, 106, 107, 108, 109, 110, 111, 112, 113, 114, 115, 116, 117, 118, 119, 120, 121, 122]⟩ : ByteArray) (b.toNat : Int)).bind fun h => some (decide (h ≥ 0)))) else some false).bind fun i => ((if i then ((AP a0).bind fun d => some d) else some false).bind fun j => some j)))
def sC (a0 : List Int) : Option (List Int) :=
 ((lC 1 ([]) a0).bind fun b => some b)
def oX (a0 : jl) : Option Bool :=
 ((qM a0.jo).bind fun h => ((if h then ((qM a0.Word).bind fun b => some b) else some false).bind fun d => some d))
def mS (a0 b : ByteArray) : Option Int :=
 some (ot a0 b)
def oF (a0 b : ByteArray) : Option Int :=
 ((mS a0 b).bind fun d => some d)
def qO  : List Int → Option Int
 | [] => some 0
 | b :: d => (if (b != 0) then some b else (qO d))
def tk (a0 : List Int) : Option Int :=
 qO a0
def qz (a0 i : jl) : Option Int :=
 ((oF a0.jo i.jo).bind fun b => ((oF a0.Word i.Word).bind fun d => ((tk ([b, d])).bind fun h => some h)))
def rX (a0 : jm) : Option Bool :=
 ((oX a0.Head).bind fun E => (((if (a0.Kind == 1) then ((if E then ((qM a0.ke).bind fun d => some d) else some false).bind fun t => some (Sum.inr (t, (⟨a0.Kind, a0.Head, a0.ke, (⟨zS, zS⟩ : jl), (⟨zS, zS⟩ : jl), zS⟩ : jm)))) else (if (a0.Kind == 2) then ((if E then ((oX a0.B).bind fun h => some h) else some false).bind fun u => some (Sum.inr (u, (⟨a0.Kind, a0.Head, zS, a0.B, (⟨zS, zS⟩ : jl), zS⟩ : jm)))) else (if (a0.Kind == 3) then ((if E then ((oX a0.B).bind fun j => some j) else some false).bind fun v => ((if v then some (kv a0.B.jo a0.Head.jo) else some false).bind fun w => ((if w then ((qM a0.kp).bind fun i => some i) else some false).bind fun x => some (Sum.inr (x, (⟨a0.Kind, a0.Head, zS, a0.B, (⟨zS, zS⟩ : jl), a0.kp⟩ : jm)))))) else (if (a0.Kind == 4) then ((if E then ((oX a0.B).bind fun n => some n) else some false).bind fun y => ((if y then ((oX a0.C).bind fun m => some m) else some false).bind fun z => ((if z then ((qz a0.B a0.C).bind fun l => some (decide (l < 0))) else some false).bind fun A => some (Sum.inr (A, (⟨a0.Kind, a0.Head, zS, a0.B, a0.C, zS⟩ : jm)))))) else some (Sum.inl false))))) : Option (Bool ⊕ (Bool × jm))).bind fun s => match s with | .inl b => some b | .inr (p, q) => ((if p then some (ko q a0) else some false).bind fun r => some r)))
def oU  : Nat → Int → (List Int) → Option (Bool × (List Int))
 | 0, _, _ => none
 | j + 1, b, h => (if (decide (b ≥ 128)) then ((lC 1 h ([(IntKind.u8.wrap (BitVec.ofInt (IntKind.bits .u8) (IntKind.u8.wrap b) ||| BitVec.ofInt (IntKind.bits .u8) 128).toNat)])).bind fun i => (oU j (Int.fdiv b (2 ^ min (Int.toNat 7) (IntKind.bits .i64))) i)) else ((lC 1 h ([(IntKind.u8.wrap b)])).bind fun d => some (true, d)))
def np (b : List Int) (d : Int) : Option (Bool × (List Int)) :=
 (if (decide (d < 0)) then some (false, b) else oU jP d b)
def vP (b d : List Int) : Option (Bool × (List Int)) :=
 (if (decide ((d.length : Int) > 2048)) then some (false, b) else ((np b (d.length : Int)).bind fun i => ((lC 1 i.2 d).bind fun h => some (true, h))))
def rV (b : List Int) (l : ByteArray) : Option (Bool × (List Int)) :=
 ((qM l).bind fun m => (((if m then ((BI l).bind fun i => ((vP b i).bind fun d => some (d.1, d.2))) else some (false, b)) : Option (Bool × (List Int))).bind fun (j, h) => some (j, h)))
def oV (b : List Int) (j : jl) : Option (Bool × (List Int)) :=
 ((oX j).bind fun p => (((if p then ((rV b j.jo).bind fun i => some (i.1, i.2)) else some (false, b)) : Option (Bool × (List Int))).bind fun (m, d) => (((if m then ((rV d j.Word).bind fun h => some (h.1, h.2)) else some (false, d)) : Option (Bool × (List Int))).bind fun (n, l) => some (n, l))))
def rU (b : List Int) : Option (List Int) :=
 ((sC b).bind fun d => some d)
def uZ (a0 : jm) : Option (List Int) :=
 ((rX a0).bind fun q => (if (!q) then some [] else ((np ([]) a0.Kind).bind fun r => ((oV r.2 a0.Head).bind fun b => (((if (a0.Kind == 1) then ((rV b.2 a0.ke).bind fun i => some i.2) else (if (a0.Kind == 2) then ((oV b.2 a0.B).bind fun j => some j.2) else (if (a0.Kind == 3) then ((oV b.2 a0.B).bind fun l => ((rV l.2 a0.kp).bind fun m => some m.2)) else (if (a0.Kind == 4) then ((oV b.2 a0.B).bind fun n => ((oV n.2 a0.C).bind fun p => some p.2)) else some b.2)))) : Option (List Int)).bind fun d => ((rU d).bind fun h => some h))))))
def qh (a0 : List jm) : Option (List jm) :=
 ((lC 136 ([]) a0).bind fun b => some b)
def nN (f1 : jm → Option Bool) : List jm → Nat → Option Int
 | [], _ => some (-1)
 | h :: b, i35 => ((f1 h).bind fun d => (if d then some (i35 : Int) else (nN f1 b (i35 + 1))))
def oB (a0 : List jm) (f1 : jm → Option Bool) : Option Int :=
 nN f1 a0 0
def mT (f1 : jm → Option Bool) : Nat → (List jm) → Int → Int → Option (List jm)
 | 0, _, _, _ => none
 | n321 + 1, d, b, h => (if (decide (h < (d.length : Int))) then ((((kF d h).bind fun i => ((f1 i).bind fun l => (if (!l) then ((kF d b).bind fun n => some ((d.set (Int.toNat b) i), (wi0 .i64 (b + 1)))) else some (d, b)))) : Option ((List jm) × Int)).bind fun (j, m) => (mT f1 n321 j m (wi0 .i64 (h + 1)))) else ((qi (decide (0 ≤ b) && decide (b ≤ (d.length : Int)))).bind fun _ => ((qi (decide (0 ≤ b) && decide (b ≤ ((nO d (Int.toNat b) (⟨0, (⟨zS, zS⟩ : jl), zS, (⟨zS, zS⟩ : jl), (⟨zS, zS⟩ : jl), zS⟩ : jm)).length : Int)))).bind fun _ => some ((nO d (Int.toNat b) (⟨0, (⟨zS, zS⟩ : jl), zS, (⟨zS, zS⟩ : jl), (⟨zS, zS⟩ : jl), zS⟩ : jm)).take (Int.toNat b)))))
def pN (a0 : List jm) (f1 : jm → Option Bool) : Option (List jm) :=
 ((oB a0 f1).bind fun b => (if (b == (-1)) then some a0 else mT f1 jP a0 b (wi0 .i64 (b + 1))))
def wj (a0 : jm) : Option Bool :=
 ((rX a0).bind fun b => some (!b))
def uN (a0 b : List Int) : Option Int :=
 some (wO a0 b)
def rK (a0 i : jm) : Option Int :=
 ((uZ a0).bind fun b => ((uZ i).bind fun d => ((uN b d).bind fun h => some h)))
def nr (d : Int) : Nat → (List jm) → Int → Int → Option ((List jm) × Int)
 | 0, _, _, _ => none
 | l + 1, b, h, i => (if (decide (i < ((b.length - (Int.toNat d) : Nat) : Int))) then ((((kF (b.drop (Int.toNat d)) i).bind fun n => ((kF (b.drop (Int.toNat d)) (wi0 .i64 (i - 1))).bind fun p => (if (!(ko n p)) then ((kF (b.drop (Int.toNat d)) i).bind fun q => ((kF b h).bind fun r => some ((b.set (Int.toNat h) q), (wi0 .i64 (h + 1))))) else some (b, h)))) : Option ((List jm) × Int)).bind fun (j, m) => (nr d l j m (wi0 .i64 (i + 1)))) else some (b, h))
def nx (a0 : List jm) : Nat → Int → Option (List jm)
 | 0, _ => none
 | i + 1, b => (if (decide (b < (a0.length : Int))) then ((kF a0 b).bind fun j => ((kF a0 (wi0 .i64 (b - 1))).bind fun l => (if (ko j l) then ((qi (decide (0 ≤ b) && decide (b ≤ (a0.length : Int)))).bind fun _ => ((nr b jP a0 b 1).bind fun (h, d) => ((qi (decide (0 ≤ d) && decide (d ≤ (h.length : Int)))).bind fun _ => ((qi (decide (0 ≤ d) && decide (d ≤ ((nO h (Int.toNat d) (⟨0, (⟨zS, zS⟩ : jl), zS, (⟨zS, zS⟩ : jl), (⟨zS, zS⟩ : jl), zS⟩ : jm)).length : Int)))).bind fun _ => some ((nO h (Int.toNat d) (⟨0, (⟨zS, zS⟩ : jl), zS, (⟨zS, zS⟩ : jl), (⟨zS, zS⟩ : jl), zS⟩ : jm)).take (Int.toNat d)))))) else (nx a0 i (wi0 .i64 (b + 1)))))) else some a0)
def qQ (a0 : List jm) : Option (List jm) :=
 (if (decide ((a0.length : Int) < 2)) then some a0 else nx a0 jP 1)
def xx (a0 : List jm) : Option (List jm) :=
 ((qh a0).bind fun i => ((pN i (fun (x : jm) => wj x)).bind fun b => ((yr (fun (x : (jm × jm)) => rK x.1 x.2) b).bind fun d => ((qQ d).bind fun h => some h))))
def oS (h : jm) : List jm → Nat → Option Int
 | [], _ => some (-1)
 | d :: b, i46 => (if (ko h d) then some (i46 : Int) else (oS h b (i46 + 1)))
def uB (a0 : List jm) (b : jm) : Option Int :=
 oS b a0 0
def qH (a0 : List jm) (b : jm) : Option Bool :=
 ((uB a0 b).bind fun d => some (decide (d ≥ 0)))
def pf (a0 : List jm) (b : jm) : Option Bool :=
 ((qH a0 b).bind fun d => some d)
def xr (a0 : jm) : Option (List jl) :=
 ((rX a0).bind fun j => (if (!j) then some [] else (((if (a0.Kind != 1) then ((lC 32 ([a0.Head]) ([a0.B])).bind fun i => some i) else some ([a0.Head])) : Option (List jl)).bind fun b => (((if (a0.Kind == 4) then ((lC 32 b ([a0.C])).bind fun h => some h) else some b) : Option (List jl)).bind fun d => some d))))
def nH (l : jm) (b : List (ByteArray × (List jm))) (i : List jm) : List jl → (List (jl × (List jm))) → Option ((List jm) × (List (jl × (List jm))) × (List (ByteArray × (List jm))))
 | [], d => (if (l.Kind == 3) then ((lC 136 ((kE kv b l.kp).getD []) ([l])).bind fun n => some (i, d, (ns kv b l.kp n))) else some (i, d, b))
 | h :: j, d => ((lC 136 ((kE jG d h).getD []) ([l])).bind fun m => (nH l b i j (ns jG d h m)))
def rp (l : List (jl × (List (ByteArray × Bool)))) (b : List jm) (h : List (jl × (List jm))) (d : List (ByteArray × (List jm))) (i : List jz) (p : Int) (m : jm) : Option ((List jm) × (List (jl × (List jm))) × (List (ByteArray × (List jm)))) :=
 ((lC 136 b ([m])).bind fun n => ((xr m).bind fun j => ((qi (decide (0 ≤ 1) && decide (1 ≤ (j.length : Int)))).bind fun _ => nH m d n (j.drop (Int.toNat 1)) h)))
def nf (b : List (jl × (List (ByteArray × Bool)))) (i : List jm) (l : List (jl × (List jm))) (j : List (ByteArray × (List jm))) (d : List jz) (h : Int) (m : jl) (a2 : ByteArray) : Option ((List (jl × (List (ByteArray × Bool)))) × (List jz) × Int) :=
 (if (yt kv ((kE jG b m).getD []) a2 false) then some (b, d, h) else (((if (kE jG b m).isNone then ((EV jG b m ([])).bind fun n => some n) else some b) : Option (List (jl × (List (ByteArray × Bool))))).bind fun p => ((EA jG kv p m a2 true).bind fun q => ((lC 48 d ([(⟨m, a2⟩ : jz)])).bind fun r => some (q, r, (wi0 .i64 (h + 1)))))))
def nP (a0 : List (ByteArray × Bool)) : Option Unit :=
 some ()
def py (b : List (jl × (List (ByteArray × Bool)))) (d : List jm) (j : List (jl × (List jm))) (h : List (ByteArray × (List jm))) (i : List jz) (m : Int) (n : jl) : Option (List ByteArray) :=
 ((nP ((kE jG b n).getD [])).bind fun p => ((E4 ((kE jG b n).getD [])).bind fun l => some l))
def oT (b : List jm) (h : List (jl × (List jm))) (d : List (ByteArray × (List jm))) (a2 : jl) : List ByteArray → (List (jl × (List (ByteArray × Bool)))) → (List jz) → Int → Option ((List (jl × (List (ByteArray × Bool)))) × (List jz) × Int)
 | [], i, j, m => some (i, j, m)
 | p :: n, i, j, m => ((nf i b h d j m a2 p).bind fun l => (oT b h d a2 n l.1 l.2.1 l.2.2))
def se (j : List (jl × (List (ByteArray × Bool)))) (b : List jm) (i : List (jl × (List jm))) (d : List (ByteArray × (List jm))) (h : List jz) (l : Int) (m a2 : jl) : Option ((List (jl × (List (ByteArray × Bool)))) × (List jz) × Int) :=
 ((py j b i d h l m).bind fun n => oT b i d a2 n j h l)
def qf (b : List (jl × (List (ByteArray × Bool)))) (h : List jm) (j : List (jl × (List jm))) (i : List (ByteArray × (List jm))) (d : List jz) (l : Int) (m : jm) (a2 : jz) : Option ((List (jl × (List (ByteArray × Bool)))) × (List jz) × Int) :=
 (if (m.Kind == 2) then ((nf b h j i d l m.Head a2.ke).bind fun q => some (q.1, q.2.1, q.2.2)) else (if (m.Kind == 3) then ((se b h j i d l (⟨a2.ke, m.kp⟩ : jl) m.Head).bind fun n => some (n.1, n.2.1, n.2.2)) else (if (m.Kind == 4) then ((if (yt kv ((kE jG b m.B).getD []) a2.ke false) then some (yt kv ((kE jG b m.C).getD []) a2.ke false) else some false).bind fun r => (if r then ((nf b h j i d l m.Head a2.ke).bind fun p => some (p.1, p.2.1, p.2.2)) else some (b, d, l))) else some (b, d, l))))
def oq (b : List jm) (h : List (jl × (List jm))) (d : List (ByteArray × (List jm))) (q : jm) : List ByteArray → (List (jl × (List (ByteArray × Bool)))) → (List jz) → Int → Option ((List (jl × (List (ByteArray × Bool)))) × (List jz) × Int)
 | [], i, j, m => some (i, j, m)
 | p :: n, i, j, m => ((qf i b h d j m q (⟨q.B, p⟩ : jz)).bind fun l => (oq b h d q n l.1 l.2.1 l.2.2))
def qP (j : List (jl × (List (ByteArray × Bool)))) (b : List jm) (i : List (jl × (List jm))) (d : List (ByteArray × (List jm))) (h : List jz) (l : Int) (m : jm) : Option ((List (jl × (List (ByteArray × Bool)))) × (List jz) × Int) :=
 (if (m.Kind == 1) then ((nf j b i d h l m.Head m.ke).bind fun p => some (p.1, p.2.1, p.2.2)) else ((py j b i d h l m.B).bind fun n => oq b i d m n j h l))
def nj (l : jz) (b : List jm) (h : List (jl × (List jm))) (d : List (ByteArray × (List jm))) : List jm → (List (jl × (List (ByteArray × Bool)))) → (List jz) → Int → Option ((List (jl × (List (ByteArray × Bool)))) × (List jz) × Int)
 | [], i, j, m => some (i, j, m)
 | q :: p, i, j, m => (if (yt kv ((kE jG i q.B).getD []) l.jl.jo false) then ((nf i b h d j m q.Head l.ke).bind fun n => (nj l b h d p n.1 n.2.1 n.2.2)) else (nj l b h d p i j m))
def nX (b : List jm) (h : List (jl × (List jm))) (d : List (ByteArray × (List jm))) (n : jz) : List jm → (List (jl × (List (ByteArray × Bool)))) → (List jz) → Int → Option ((List (jl × (List (ByteArray × Bool)))) × (List jz) × Int)
 | [], i, j, m => some (i, j, m)
 | q :: p, i, j, m => ((qf i b h d j m q n).bind fun l => (nX b h d n p l.1 l.2.1 l.2.2))
def mK (h : List jm) (d : List (jl × (List jm))) (b : List (ByteArray × (List jm))) : Nat → (List (jl × (List (ByteArray × Bool)))) → (List jz) → Int → Option ((List (jl × (List (ByteArray × Bool)))) × (List jz) × Int)
 | 0, _, _, _ => none
 | s + 1, l, i, m => (if (decide ((i.length : Int) > 0)) then ((kF i 0).bind fun j => ((qi (decide (0 ≤ 1) && decide (1 ≤ (i.length : Int)))).bind fun _ => ((nX h d b j ((kE jG d j.jl).getD []) l (i.drop (Int.toNat 1)) m).bind fun (n, p, t) => ((nj j h d b ((kE kv b j.jl.Word).getD []) n p t).bind fun (q, r, u) => (mK h d b s q r u))))) else some (l, i, m))
def sS (j : List (jl × (List (ByteArray × Bool)))) (b : List jm) (i : List (jl × (List jm))) (d : List (ByteArray × (List jm))) (h : List jz) (l : Int) : Option ((List (jl × (List (ByteArray × Bool)))) × (List jz) × Int) :=
 mK b i d jP j h l
def ni (q : Int) : List jm → (List (jl × (List (ByteArray × Bool)))) → (List jm) → (List (jl × (List jm))) → (List (ByteArray × (List jm))) → (List jz) → Int → Option (Int × (List (jl × (List (ByteArray × Bool)))) × (List jm) × (List (jl × (List jm))) × (List (ByteArray × (List jm))) × (List jz) × Int)
 | [], h, b, i, j, l, m => ((sS h b i j l m).bind fun n => some ((wi0 .i64 (n.2.2 - q)), n.1, b, i, j, n.2.1, n.2.2))
 | p :: s, h, b, i, j, l, m => ((rX p).bind fun t => ((if t then ((pf b p).bind fun u => some (!u)) else some false).bind fun v => (if v then ((rp h b i j l m p).bind fun d => ((qP h d.1 d.2.1 d.2.2 l m p).bind fun r => (ni q s r.1 d.1 d.2.1 d.2.2 r.2.1 r.2.2))) else (ni q s h b i j l m))))
def sd (j : List (jl × (List (ByteArray × Bool)))) (b : List jm) (i : List (jl × (List jm))) (d : List (ByteArray × (List jm))) (h : List jz) (l : Int) (m : List jm) : Option (Int × (List (jl × (List (ByteArray × Bool)))) × (List jm) × (List (jl × (List jm))) × (List (ByteArray × (List jm))) × (List jz) × Int) :=
 ni l m j b i d h l
def vo (a0 : List jm) : Option ((List (jl × (List (ByteArray × Bool)))) × (List jm) × (List (jl × (List jm))) × (List (ByteArray × (List jm))) × (List jz) × Int) :=
 ((sd ([]) ([]) ([]) ([]) ([]) 0 a0).bind fun b => some (b.2.1, b.2.2.1, b.2.2.2.1, b.2.2.2.2.1, b.2.2.2.2.2.1, b.2.2.2.2.2.2))
def oY (a0 i : jz) : Option Int :=
 ((qz a0.jl i.jl).bind fun b => ((oF a0.ke i.ke).bind fun d => ((tk ([b, d])).bind fun h => some h)))
def uA (d : List (jl × (List (ByteArray × Bool)))) (h : List jm) (l : List (jl × (List jm))) (i : List (ByteArray × (List jm))) (j : List jz) (n : Int) : Option (List jz) :=
 ((Mq 48 (fun (a : jl) (b : ByteArray) => (⟨a, b⟩ : jz)) d).bind fun fs => Dw fs (fun m => ((yr (fun (x : (jz × jz)) => oY x.1 x.2) m).bind fun p => some p)))
def rS (b : List (jl × (List (ByteArray × Bool)))) (d : List jm) (j : List (jl × (List jm))) (h : List (ByteArray × (List jm))) (i : List jz) (l : Int) (m : jl) (a2 : ByteArray) : Option Bool :=
 some (yt kv ((kE jG b m).getD []) a2 false)
def qn  : List jm → Int → Option Int
 | [], d => some d
 | b :: h, d => (qn h (wi0 .i64 (d + (wi0 .i64 ((wi0 .i64 ((wi0 .i64 ((wi0 .i64 ((wi0 .i64 ((wi0 .i64 ((wi0 .i64 ((wi0 .i64 (20 + (b.Head.jo.size : Int))) + (b.Head.Word.size : Int))) + (b.ke.size : Int))) + (b.B.jo.size : Int))) + (b.B.Word.size : Int))) + (b.C.jo.size : Int))) + (b.C.Word.size : Int))) + (b.kp.size : Int))))))
def ud (a0 : List jm) : Option Int :=
 qn a0 0
def qv  : List Signed → Int → Option Int
 | [], b => some b
 | d :: h, b => ((ud ([d.jm])).bind fun i => (qv h (wi0 .i64 (b + (wi0 .i64 (i + (d.Tag.length : Int)))))))
def pn (j : List Signed) : List Key → Int → Option Int
 | [], b => ((qv j b).bind fun d => some d)
 | h :: i, b => (pn j i (wi0 .i64 (b + (wi0 .i64 ((wi0 .i64 (10 + (h.ke.size : Int))) + (h.Key.length : Int))))))
def sw (a0 : List Key) (b : List Signed) : Option Int :=
 pn b a0 0
def rM (a0 : ByteArray) : Nat → Int → Option Bool
 | 0, _ => none
 | h + 1, d => (if (decide (d < (a0.size : Int))) then ((yZ a0 d).bind fun b => ((if (decide ((b.toNat : Int) < 97)) then some true else some (decide ((b.toNat : Int) > 122))).bind fun i => ((if i then ((if (decide ((b.toNat : Int) < 48)) then some true else some (decide ((b.toNat : Int) > 57))).bind fun m => some m) else some false).bind fun j => ((if j then some ((b.toNat : Int) != 45) else some false).bind fun l => (if l then some false else (rM a0 h (wi0 .i64 (d + 1)))))))) else some true)
def qW (a0 : ByteArray) : Option Bool :=
 ((if (kv a0 zS) then some true else some (decide ((a0.size : Int) > 16))).bind fun x2 => ((if x2 then some true else ((yZ a0 0).bind fun d => some (decide ((d.toNat : Int) < 97)))).bind fun h => ((if h then some true else ((yZ a0 0).bind fun b => some (decide ((b.toNat : Int) > 122)))).bind fun i => (if i then some false else rM a0 jP 0))))
def su (a0 : jl) : Option Bool :=
 ((qW a0.jo).bind fun h => ((if h then ((qW a0.Word).bind fun b => some b) else some false).bind fun d => some d))
def xw (a0 b : jl) : Option Bool :=
 ((if (pg a0.jo b.jo) then some true else ((if (kv a0.jo b.jo) then some (pg a0.Word b.Word) else some false).bind fun h => some h)).bind fun d => some d)
def wx (a0 : jm) : Option Bool :=
 ((su a0.Head).bind fun w => (if (!w) then some false else (if (a0.Kind == 1) then ((qW a0.ke).bind fun l => ((if l then some (jG a0.B (⟨zS, zS⟩ : jl)) else some false).bind fun n => ((if n then some (jG a0.C (⟨zS, zS⟩ : jl)) else some false).bind fun p => ((if p then some (kv a0.kp zS) else some false).bind fun q => some q)))) else ((if (!(kv a0.ke zS)) then some true else ((su a0.B).bind fun h => some (!h))).bind fun r => (if r then some false else (if (a0.Kind == 2) then ((if (jG a0.C (⟨zS, zS⟩ : jl)) then some (kv a0.kp zS) else some false).bind fun s => some s) else (if (a0.Kind == 3) then ((if (jG a0.C (⟨zS, zS⟩ : jl)) then some (kv a0.B.jo a0.Head.jo) else some false).bind fun t => ((if t then ((qW a0.kp).bind fun m => some m) else some false).bind fun u => some u)) else ((if (a0.Kind == 4) then some (kv a0.kp zS) else some false).bind fun v => ((if v then ((su a0.C).bind fun d => some d) else some false).bind fun i => ((if i then ((xw a0.B a0.C).bind fun b => some b) else some false).bind fun j => some j))))))))))
def vO  : Nat → Int → ByteArray → Option ByteArray
 | 0, _, _ => none
 | n45 + 1, b, d => (if (decide (b ≥ 128)) then ((pj d (Kg ([(IntKind.u8.wrap (wi0 .i64 (128 + (Int.tmod b 128))))]))).bind fun h => (vO n45 (wi0 .i64 (Int.tdiv b 128)) h)) else ((pj d (Kg ([(IntKind.u8.wrap b)]))).bind fun i => some i))
def qE (a0 : Int) : Option ByteArray :=
 vO jP a0 zS
def tI (a0 : ByteArray) : Option ByteArray :=
 ((qE (a0.size : Int)).bind fun b => ((pj b a0).bind fun d => some d))
def sv (a0 : jl) : Option ByteArray :=
 ((tI a0.jo).bind fun b => ((tI a0.Word).bind fun d => ((pj b d).bind fun h => some h)))
def Cw (a0 : jm) : Option ByteArray :=
 ((qE a0.Kind).bind fun i => ((sv a0.Head).bind fun j => ((pj i j).bind fun b => (if (a0.Kind == 1) then ((tI a0.ke).bind fun l => ((pj b l).bind fun q => some q)) else ((sv a0.B).bind fun m => ((pj b m).bind fun d => (((if (a0.Kind == 3) then ((tI a0.kp).bind fun p => ((pj d p).bind fun s => some s)) else some d) : Option ByteArray).bind fun h => (((if (a0.Kind == 4) then ((sv a0.C).bind fun n => ((pj h n).bind fun r => some r)) else some h) : Option ByteArray).bind fun t => some t))))))))
def wi (a0 : jm) : Option ByteArray :=
 ((wx a0).bind fun b => (if (!b) then some zS else ((Cw a0).bind fun d => some d)))
def sN (a0 h : jm) : Option Int :=
 ((wi a0).bind fun b => ((wi h).bind fun d => (if (pg b d) then some (-1) else (if (!(pg b d || kv b d)) then some 1 else some 0))))
def rF (b : List jm) : List jm → Bool → jm → Option (Bool × jm)
 | [], h, i => some (h, i)
 | d :: j, h, i => ((wx d).bind fun l => ((if l then ((if ((b.length : Int) == 0) then some true else ((kF b (wi0 .i64 ((b.length : Int) - 1))).bind fun t => ((sN t d).bind fun n => some (decide (n < 0))))).bind fun s => some s) else some false).bind fun p => ((if p then ((if (!h) then some true else ((sN d i).bind fun m => some (decide (m < 0)))).bind fun r => some r) else some false).bind fun q => (if q then (rF b j true d) else (rF b j h i)))))
def vz (a0 : List jm) : Nat → (List jm) → Option (List jm)
 | 0, _ => none
 | h + 1, b => ((rF b a0 false (⟨0, (⟨zS, zS⟩ : jl), zS, (⟨zS, zS⟩ : jl), (⟨zS, zS⟩ : jl), zS⟩ : jm)).bind fun (i, j) => (if (!i) then some b else ((lC 136 b ([j])).bind fun d => (vz a0 h d))))
def yw (a0 : List jm) : Option (List jm) :=
 vz a0 jP ([])
def sL (i : List jm) : List jm → Nat → Option Bool
 | [], _ => some true
 | h :: d, i90 => ((kF i (i90 : Int)).bind fun b => (if (!(ko h b)) then some false else (sL i d (i90 + 1))))
def uX (a0 b : List jm) : Option Bool :=
 (if ((a0.length : Int) != (b.length : Int)) then some false else sL b a0 0)
def vt (h : jm) : List jm → Option Bool
 | [] => some false
 | d :: b => (if (ko d h) then some true else (vt h b))
def rA (a0 : List jm) (b : jm) : Option Bool :=
 vt b a0
def rJ (b : List ByteArray) : List ByteArray → ByteArray → Option ByteArray
 | [], h => some h
 | d :: i, h => ((qW d).bind fun l => ((if l then ((if ((b.length : Int) == 0) then some true else ((kF b (wi0 .i64 ((b.length : Int) - 1))).bind fun j => some (!(pg d j || kv d j)))).bind fun q => some q) else some false).bind fun m => ((if m then ((if (kv h zS) then some true else some (pg d h)).bind fun p => some p) else some false).bind fun n => (if n then (rJ b i d) else (rJ b i h)))))
def vE (a0 : List ByteArray) : Nat → (List ByteArray) → Option (List ByteArray)
 | 0, _ => none
 | i + 1, b => ((rJ b a0 zS).bind fun d => (if (kv d zS) then some b else ((lC 16 b ([d])).bind fun h => (vE a0 i h))))
def AT (a0 : List ByteArray) : Option (List ByteArray) :=
 vE a0 jP ([])
def sb  : List jm → (List ByteArray) → Option (List ByteArray)
 | [], d => ((AT d).bind fun i => some i)
 | b :: j, d => ((lC 16 d ([b.ke, b.Head.jo, b.B.jo, b.C.jo])).bind fun h => (sb j h))
def yR (a0 : List jm) : Option (List ByteArray) :=
 sb a0 ([])
def wg (i : jl) (a2 : ByteArray) : List jz → Option Bool
 | [] => some false
 | d :: h => ((if (jG d.jl i) then some (kv d.ke a2) else some false).bind fun b => (if b then some true else (wg i a2 h)))
def tW (a0 : List jz) (b : jl) (a2 : ByteArray) : Option Bool :=
 wg b a2 a0
def uE (a0 : List jz) (l : jm) (a3 : ByteArray) : List ByteArray → Option Bool
 | [] => some false
 | b :: d => ((tW a0 l.B b).bind fun h => ((if h then ((tW a0 (⟨b, l.kp⟩ : jl) a3).bind fun i => some i) else some false).bind fun j => (if j then some true else (uE a0 l a3 d))))
def zU (a0 : List jz) (b : jm) (a2 : List ByteArray) (a3 : ByteArray) : Option Bool :=
 (if (b.Kind == 1) then some (kv b.ke a3) else (if (b.Kind == 2) then ((tW a0 b.B a3).bind fun i => some i) else (if (b.Kind == 4) then ((tW a0 b.B a3).bind fun j => ((if j then ((tW a0 b.C a3).bind fun d => some d) else some false).bind fun h => some h)) else uE a0 b a3 a2)))
def th (a0 b : jz) : Option Bool :=
 ((xw a0.jl b.jl).bind fun i => ((if i then some true else ((if (jG a0.jl b.jl) then some (pg a0.ke b.ke) else some false).bind fun h => some h)).bind fun d => some d))
def oG (d a0 : List jz) : List jz → Nat → Int → Option Int
 | [], _, b => some b
 | j :: i, h, b => ((if ((d.length : Int) == 0) then some true else ((kF d (wi0 .i64 ((d.length : Int) - 1))).bind fun s => ((th s j).bind fun m => some m))).bind fun n => ((if n then ((if (decide (b < 0)) then some true else ((kF a0 b).bind fun r => ((th j r).bind fun l => some l))).bind fun q => some q) else some false).bind fun p => (if p then (oG d a0 i (h + 1) (h : Int)) else (oG d a0 i (h + 1) b))))
def oE (a0 : List jz) : List jz → (List jz) → Option (List jz)
 | [], b => some b
 | l :: h, b => ((oG b a0 a0 0 (-1)).bind fun d => (if (decide (d ≥ 0)) then ((kF a0 d).bind fun j => ((lC 48 b ([j])).bind fun i => (oE a0 h i))) else (oE a0 h b)))
def BC (a0 : List jz) : Option (List jz) :=
 oE a0 a0 ([])
def uq (d : jm) (q : List ByteArray) : List ByteArray → (List jz) → Bool → Option ((List jz) × Bool)
 | [], b, i => some (b, i)
 | h :: j, b, i => ((tW b d.Head h).bind fun m => ((if (!m) then ((zU b d q h).bind fun n => some n) else some false).bind fun p => (if p then ((lC 48 b ([(⟨d.Head, h⟩ : jz)])).bind fun l => (uq d q j l true)) else (uq d q j b i))))
def wA (m : List ByteArray) : List jm → (List jz) → Bool → Option ((List jz) × Bool)
 | [], b, d => some (b, d)
 | j :: h, b, d => ((uq j m m b d).bind fun (i, l) => (wA m h i l))
def wo (l : List ByteArray) (m : List jm) : Nat → (List jz) → Option (List jz)
 | 0, _ => none
 | d + 1, j => ((wA l m j false).bind fun (b, i) => (if (!i) then ((BC b).bind fun h => some h) else (wo l m d b)))
def vm (a0 : List jm) : Option (List jz) :=
 ((yw a0).bind fun d => ((yR d).bind fun b => wo b d jP ([])))
def tq (a0 : List jm) (d : ByteArray) : Option ((List (jl × (List (ByteArray × Bool)))) × (List jm) × (List (jl × (List jm))) × (List (ByteArray × (List jm))) × (List jz) × Int × ByteArray) :=
 ((vo a0).bind fun b => some (b.1, b.2.1, b.2.2.1, b.2.2.2.1, b.2.2.2.2.1, b.2.2.2.2.2, d))
def mH (f1 : kK → Option Bool) : List kK → Nat → Option Int
 | [], _ => some (-1)
 | h :: b, i47 => ((f1 h).bind fun d => (if d then some (i47 : Int) else (mH f1 b (i47 + 1))))
def qY (a0 : List kK) (f1 : kK → Option Bool) : Option Int :=
 mH f1 a0 0
def uH (a0 : kK) (b : jm) : Option Bool :=
 some (ko a0.Signed.jm b)
def xm (a0 : jQ) (h : jm) : Option (kK × Bool) :=
 ((qY a0.jA (fun (x : kK) => uH x h)).bind fun b => (if (decide (b < 0)) then some ((⟨(⟨(⟨0, (⟨zS, zS⟩ : jl), zS, (⟨zS, zS⟩ : jl), (⟨zS, zS⟩ : jl), zS⟩ : jm), []⟩ : Signed), (⟨0, 0, (⟨zS, zS⟩ : jl), []⟩ : Formula)⟩ : kK), false) else ((kF a0.jA b).bind fun d => some (d, true))))
def sJ (a0 : List nh) : Option (List nh) :=
 ((lC 128 ([]) a0).bind fun b => some b)
def nk (f1 : nh → Option Bool) : List nh → Nat → Option Int
 | [], _ => some (-1)
 | h :: b, i47 => ((f1 h).bind fun d => (if d then some (i47 : Int) else (nk f1 b (i47 + 1))))
def sX (a0 : List nh) (f1 : nh → Option Bool) : Option Int :=
 nk f1 a0 0
def mY (f1 : nh → Option Bool) : Nat → (List nh) → Int → Int → Option (List nh)
 | 0, _, _, _ => none
 | l + 1, d, b, h => (if (decide (h < (d.length : Int))) then ((((kF d h).bind fun i => ((f1 i).bind fun m => (if (!m) then ((kF d b).bind fun p => some ((d.set (Int.toNat b) i), (wi0 .i64 (b + 1)))) else some (d, b)))) : Option ((List nh) × Int)).bind fun (j, n) => (mY f1 l j n (wi0 .i64 (h + 1)))) else ((qi (decide (0 ≤ b) && decide (b ≤ (d.length : Int)))).bind fun _ => ((qi (decide (0 ≤ b) && decide (b ≤ ((nO d (Int.toNat b) (⟨(⟨zS, zS⟩ : jl), (⟨0, 0, (⟨zS, zS⟩ : jl), []⟩ : Formula), []⟩ : nh)).length : Int)))).bind fun _ => some ((nO d (Int.toNat b) (⟨(⟨zS, zS⟩ : jl), (⟨0, 0, (⟨zS, zS⟩ : jl), []⟩ : Formula), []⟩ : nh)).take (Int.toNat b)))))
def qe (a0 : List nh) (f1 : nh → Option Bool) : Option (List nh) :=
 ((sX a0 f1).bind fun b => (if (b == (-1)) then some a0 else mY f1 jP a0 b (wi0 .i64 (b + 1))))
def qD (a0 : nh) (b : jm) : Option Bool :=
 ((pf a0.lx b).bind fun d => some (!d))
def wu (a0 : jQ) (d : jm) : Option (List nh) :=
 ((sJ a0.jO).bind fun h => ((qe h (fun (x : nh) => qD x d)).bind fun b => some b))
def ov (j : Int) (rec : Formula → Int → Option (Int × Int)) : List Formula → Int → Int → Option (Int × Int)
 | [], b, h => some (b, h)
 | l :: i, b, h => (if (decide (b > j)) then some (b, h) else ((rec l (wi0 .i64 (j - b))).bind fun d => (ov j rec i (wi0 .i64 (b + d.1)) (if d.2 > h then d.2 else h))))
def tR (rec : Formula → Int → Option (Int × Int)) (a0 : Formula) (h : Int) : Option (Int × Int) :=
 ((ov h rec a0.Kids 1 0).bind fun (b, d) => some (b, (wi0 .i64 (d + 1))))
def ny : Nat → Formula → Int → Option (Int × Int)
 | 0 => fun _ _ => none
 | n + 1 => tR (ny n)
def vw (a0 : Formula) : Option (Int × Int) :=
 ((ny jP a0 4096).bind fun b => (if (decide (b.1 > 4096)) then some (0, 0) else some (b.1, b.2)))
def vv (a0 : Formula) : Option Bool :=
 (if (a0.Op == 1) then ((oX a0.jl).bind fun i => ((if i then some ((a0.Kids.length : Int) == 0) else some false).bind fun j => ((if j then some (a0.K == 0) else some false).bind fun l => some l))) else ((if (a0.Op == 2) then some (a0.Op == 2) else some (a0.Op == 3)).bind fun m => (if m then ((if (jG a0.jl (⟨zS, zS⟩ : jl)) then some (a0.K == 0) else some false).bind fun n => some n) else ((if (a0.Op == 4) then some (jG a0.jl (⟨zS, zS⟩ : jl)) else some false).bind fun p => ((if p then some (decide (a0.K ≥ 0)) else some false).bind fun b => ((if b then some (decide (a0.K ≤ (a0.Kids.length : Int))) else some false).bind fun d => ((if d then some (decide ((a0.Kids.length : Int) ≥ 1)) else some false).bind fun h => some h)))))))
def mI (f1 : Formula → Option Bool) : List Formula → Nat → Option Int
 | [], _ => some (-1)
 | h :: b, i41 => ((f1 h).bind fun d => (if d then some (i41 : Int) else (mI f1 b (i41 + 1))))
def qV (a0 : List Formula) (f1 : Formula → Option Bool) : Option Int :=
 mI f1 a0 0
def nm (a0 : List Formula) (f1 : Formula → Option Bool) : Option Bool :=
 ((qV a0 f1).bind fun b => some (decide (b ≥ 0)))
def sE (rec : Formula → Option Bool) (a0 : Formula) : Option Bool :=
 ((rec a0).bind fun b => some (!b))
def tV (rec : Formula → Option Bool) (a0 : Formula) : Option Bool :=
 ((vv a0).bind fun h => ((if h then some (decide ((a0.Kids.length : Int) ≤ 8)) else some false).bind fun i => ((if i then ((nm a0.Kids (fun (x : Formula) => sE rec x)).bind fun b => some (!b)) else some false).bind fun d => some d)))
def pV : Nat → Formula → Option Bool
 | 0 => fun _ => none
 | n + 1 => tV (pV n)
def pU (a0 : Formula) : Option Bool :=
 ((vw a0).bind fun d => ((if (decide (d.1 ≥ 1)) then some (decide (d.1 ≤ 64)) else some false).bind fun j => ((if j then some (decide (d.2 ≤ 6)) else some false).bind fun h => ((if h then ((pV jP a0).bind fun b => some b) else some false).bind fun i => some i))))
def rH (a0 : Formula) (b : Int) : Option Bool :=
 ((if (a0.Op == b) then some ((a0.Kids.length : Int) == 0) else some false).bind fun x6 => some x6)
def sH  : Option Formula :=
 some (⟨2, 0, (⟨zS, zS⟩ : jl), []⟩ : Formula)
def ya  : Option Formula :=
 some (⟨3, 0, (⟨zS, zS⟩ : jl), []⟩ : Formula)
def pp (a0 : Int) : List Formula → (List Formula) → Option (List Formula)
 | [], b => some b
 | d :: h, b => (if (d.Op == a0) then ((lC 72 b d.Kids).bind fun i => (pp a0 h i)) else ((lC 72 b ([d])).bind fun j => (pp a0 h j)))
def yX (a0 : Int) (b : List Formula) : Option (List Formula) :=
 pp a0 b ([])
def pz (a0 : Formula) (b : Int) : Option Bool :=
 ((rH a0 b).bind fun d => some d)
def qG (a0 : List Formula) : Option (List Formula) :=
 ((lC 72 ([]) a0).bind fun b => some b)
def kY (s : Int) (f3 : (Formula × Formula) → Option Int) : Nat → (List Formula) → Int → Option (List Formula)
 | 0, _, _ => none
 | j + 1, d, b => ((if (decide (b > s)) then ((kF d b).bind fun n => ((kF d (wi0 .i64 (b - 1))).bind fun p => ((f3 (n, p)).bind fun l => some (decide (l < 0))))) else some false).bind fun m => (if m then ((kF d (wi0 .i64 (b - 1))).bind fun i => ((kF d b).bind fun h => ((kF d b).bind fun q => ((kF (d.set (Int.toNat b) i) (wi0 .i64 (b - 1))).bind fun r => (kY s f3 j ((d.set (Int.toNat b) i).set (Int.toNat (wi0 .i64 (b - 1))) (⟨h.Op, h.K, h.jl, h.Kids⟩ : Formula)) (wi0 .i64 (b - 1))))))) else some d))
def kJ (a2 j : Int) (f3 : (Formula × Formula) → Option Int) : Nat → (List Formula) → Int → Option (List Formula)
 | 0, _, _ => none
 | i + 1, d, b => (if (decide (b < a2)) then ((kY j f3 jP d b).bind fun h => (kJ a2 j f3 i h (wi0 .i64 (b + 1)))) else some d)
def mz (a0 : List Formula) (b a2 : Int) (f3 : (Formula × Formula) → Option Int) : Option (List Formula) :=
 kJ a2 b f3 jP a0 (wi0 .i64 (b + 1))
def lJ (a3 a2 j : Int) : Nat → (List Formula) → Int → Option (List Formula)
 | 0, _, _ => none
 | l + 1, d, b => (if (decide (b < a3)) then ((kF d (wi0 .i64 (a2 + b))).bind fun i => ((kF d (wi0 .i64 (j + b))).bind fun h => ((kF d (wi0 .i64 (j + b))).bind fun m => ((kF (d.set (Int.toNat (wi0 .i64 (j + b))) i) (wi0 .i64 (a2 + b))).bind fun n => (lJ a3 a2 j l ((d.set (Int.toNat (wi0 .i64 (j + b))) i).set (Int.toNat (wi0 .i64 (a2 + b))) (⟨h.Op, h.K, h.jl, h.Kids⟩ : Formula)) (wi0 .i64 (b + 1))))))) else some d)
def mr (a0 : List Formula) (b a2 a3 : Int) (f4 : (Formula × Formula) → Option Int) : Option (List Formula) :=
 lJ a3 a2 b jP a0 0
def lU (a2 : Int) (f4 : (Formula × Formula) → Option Int) : Nat → (List Formula) → Int → Int → Option (List Formula)
 | 0, _, _, _ => none
 | n185 + 1, h, b, d => (if (b != d) then (if (decide (b > d)) then ((mr h (wi0 .i64 (a2 - b)) a2 d f4).bind fun i => (lU a2 f4 n185 i (wi0 .i64 (b - d)) d)) else ((mr h (wi0 .i64 (a2 - b)) (wi0 .i64 ((wi0 .i64 (a2 + d)) - b)) b f4).bind fun j => (lU a2 f4 n185 j b (wi0 .i64 (d - b))))) else ((mr h (wi0 .i64 (a2 - b)) a2 b f4).bind fun l => some l))
def me (a0 : List Formula) (b a2 a3 : Int) (f4 : (Formula × Formula) → Option Int) : Option (List Formula) :=
 lU a2 f4 jP a0 (wi0 .i64 (a2 - b)) (wi0 .i64 (a3 - a2))
def lM (j : Int) : Nat → (List Formula) → Int → Option (List Formula)
 | 0, _, _ => none
 | l + 1, d, b => (if (decide (b < (wi0 .i64 (j - 1)))) then ((kF d (wi0 .i64 (b + 1))).bind fun i => ((kF d b).bind fun h => ((kF d b).bind fun m => ((kF (d.set (Int.toNat b) i) (wi0 .i64 (b + 1))).bind fun n => (lM j l ((d.set (Int.toNat b) i).set (Int.toNat (wi0 .i64 (b + 1))) (⟨h.Op, h.K, h.jl, h.Kids⟩ : Formula)) (wi0 .i64 (b + 1))))))) else some d)
def kA (a0 : List Formula) (m : Int) (f4 : (Formula × Formula) → Option Int) : Nat → Int → Int → Option (List Formula)
 | 0, _, _ => none
 | n325 + 1, b, d => (if (decide (b < d)) then ((kF a0 (wi0 .i64 (Int.fdiv (IntKind.u64.wrap (wi0 .i64 (b + d))) (2 ^ min (Int.toNat 1) (IntKind.bits .u64))))).bind fun j => ((kF a0 m).bind fun l => ((f4 (j, l)).bind fun i => (if (decide (i < 0)) then (kA a0 m f4 n325 (wi0 .i64 ((wi0 .i64 (Int.fdiv (IntKind.u64.wrap (wi0 .i64 (b + d))) (2 ^ min (Int.toNat 1) (IntKind.bits .u64)))) + 1)) d) else (kA a0 m f4 n325 b (wi0 .i64 (Int.fdiv (IntKind.u64.wrap (wi0 .i64 (b + d))) (2 ^ min (Int.toNat 1) (IntKind.bits .u64))))))))) else ((lM b jP a0 m).bind fun h => some h))
def lL (i : Int) : Nat → (List Formula) → Int → Option (List Formula)
 | 0, _, _ => none
 | l + 1, d, b => (if (decide (b > i)) then ((kF d (wi0 .i64 (b - 1))).bind fun j => ((kF d b).bind fun h => ((kF d b).bind fun m => ((kF (d.set (Int.toNat b) j) (wi0 .i64 (b - 1))).bind fun n => (lL i l ((d.set (Int.toNat b) j).set (Int.toNat (wi0 .i64 (b - 1))) (⟨h.Op, h.K, h.jl, h.Kids⟩ : Formula)) (wi0 .i64 (b - 1))))))) else some d)
def kD (a0 : List Formula) (a2 : Int) (f4 : (Formula × Formula) → Option Int) : Nat → Int → Int → Option (List Formula)
 | 0, _, _ => none
 | h + 1, b, d => (if (decide (b < d)) then ((kF a0 a2).bind fun l => ((kF a0 (wi0 .i64 (Int.fdiv (IntKind.u64.wrap (wi0 .i64 (b + d))) (2 ^ min (Int.toNat 1) (IntKind.bits .u64))))).bind fun m => ((f4 (l, m)).bind fun j => (if (!(decide (j < 0))) then (kD a0 a2 f4 h (wi0 .i64 ((wi0 .i64 (Int.fdiv (IntKind.u64.wrap (wi0 .i64 (b + d))) (2 ^ min (Int.toNat 1) (IntKind.bits .u64)))) + 1)) d) else (kD a0 a2 f4 h b (wi0 .i64 (Int.fdiv (IntKind.u64.wrap (wi0 .i64 (b + d))) (2 ^ min (Int.toNat 1) (IntKind.bits .u64))))))))) else ((lL b jP a0 a2).bind fun i => some i))
def kh (a0 : List Formula) (h a3 a2 : Int) (f4 : (Formula × Formula) → Option Int) (rec : (List Formula) → Int → Int → Int → ((Formula × Formula) → Option Int) → Option (List Formula)) : Nat → Int → Int → Option (List Formula)
 | 0, _, _ => none
 | l + 1, b, d => (if (decide (b < d)) then ((kF a0 (wi0 .i64 ((wi0 .i64 ((wi0 .i64 ((wi0 .i64 (Int.fdiv (IntKind.u64.wrap (wi0 .i64 (h + a3))) (2 ^ min (Int.toNat 1) (IntKind.bits .u64)))) + a2)) - 1)) - (wi0 .i64 (Int.fdiv (IntKind.u64.wrap (wi0 .i64 (b + d))) (2 ^ min (Int.toNat 1) (IntKind.bits .u64))))))).bind fun r => ((kF a0 (wi0 .i64 (Int.fdiv (IntKind.u64.wrap (wi0 .i64 (b + d))) (2 ^ min (Int.toNat 1) (IntKind.bits .u64))))).bind fun s => ((f4 (r, s)).bind fun m => (if (!(decide (m < 0))) then (kh a0 h a3 a2 f4 rec l (wi0 .i64 ((wi0 .i64 (Int.fdiv (IntKind.u64.wrap (wi0 .i64 (b + d))) (2 ^ min (Int.toNat 1) (IntKind.bits .u64)))) + 1)) d) else (kh a0 h a3 a2 f4 rec l b (wi0 .i64 (Int.fdiv (IntKind.u64.wrap (wi0 .i64 (b + d))) (2 ^ min (Int.toNat 1) (IntKind.bits .u64))))))))) else ((((if (decide (b < a2)) then some (decide (a2 < (wi0 .i64 ((wi0 .i64 ((wi0 .i64 (Int.fdiv (IntKind.u64.wrap (wi0 .i64 (h + a3))) (2 ^ min (Int.toNat 1) (IntKind.bits .u64)))) + a2)) - b)))) else some false).bind fun v => (if v then ((me a0 b a2 (wi0 .i64 ((wi0 .i64 ((wi0 .i64 (Int.fdiv (IntKind.u64.wrap (wi0 .i64 (h + a3))) (2 ^ min (Int.toNat 1) (IntKind.bits .u64)))) + a2)) - b)) f4).bind fun q => some q) else some a0)) : Option (List Formula)).bind fun i => ((((if (decide (h < b)) then some (decide (b < (wi0 .i64 (Int.fdiv (IntKind.u64.wrap (wi0 .i64 (h + a3))) (2 ^ min (Int.toNat 1) (IntKind.bits .u64)))))) else some false).bind fun u => (if u then ((rec i h b (wi0 .i64 (Int.fdiv (IntKind.u64.wrap (wi0 .i64 (h + a3))) (2 ^ min (Int.toNat 1) (IntKind.bits .u64)))) f4).bind fun p => some p) else some i)) : Option (List Formula)).bind fun j => ((if (decide ((wi0 .i64 (Int.fdiv (IntKind.u64.wrap (wi0 .i64 (h + a3))) (2 ^ min (Int.toNat 1) (IntKind.bits .u64)))) < (wi0 .i64 ((wi0 .i64 ((wi0 .i64 (Int.fdiv (IntKind.u64.wrap (wi0 .i64 (h + a3))) (2 ^ min (Int.toNat 1) (IntKind.bits .u64)))) + a2)) - b)))) then some (decide ((wi0 .i64 ((wi0 .i64 ((wi0 .i64 (Int.fdiv (IntKind.u64.wrap (wi0 .i64 (h + a3))) (2 ^ min (Int.toNat 1) (IntKind.bits .u64)))) + a2)) - b)) < a3)) else some false).bind fun t => (if t then ((rec j (wi0 .i64 (Int.fdiv (IntKind.u64.wrap (wi0 .i64 (h + a3))) (2 ^ min (Int.toNat 1) (IntKind.bits .u64)))) (wi0 .i64 ((wi0 .i64 ((wi0 .i64 (Int.fdiv (IntKind.u64.wrap (wi0 .i64 (h + a3))) (2 ^ min (Int.toNat 1) (IntKind.bits .u64)))) + a2)) - b)) a3 f4).bind fun n => some n) else some j)))))
def ob (rec : (List Formula) → Int → Int → Int → ((Formula × Formula) → Option Int) → Option (List Formula)) (a0 : List Formula) (b a2 a3 : Int) (f4 : (Formula × Formula) → Option Int) : Option (List Formula) :=
 (if ((wi0 .i64 (a2 - b)) == 1) then kA a0 b f4 jP a2 a3 else (if ((wi0 .i64 (a3 - a2)) == 1) then kD a0 a2 f4 jP b a2 else (((if (decide (a2 > (wi0 .i64 (Int.fdiv (IntKind.u64.wrap (wi0 .i64 (b + a3))) (2 ^ min (Int.toNat 1) (IntKind.bits .u64)))))) then some ((wi0 .i64 ((wi0 .i64 ((wi0 .i64 (Int.fdiv (IntKind.u64.wrap (wi0 .i64 (b + a3))) (2 ^ min (Int.toNat 1) (IntKind.bits .u64)))) + a2)) - a3)), (wi0 .i64 (Int.fdiv (IntKind.u64.wrap (wi0 .i64 (b + a3))) (2 ^ min (Int.toNat 1) (IntKind.bits .u64))))) else some (b, a2)) : Option (Int × Int)).bind fun (d, h) => kh a0 b a3 a2 f4 rec jP d h)))
def kL : Nat → (List Formula) → Int → Int → Int → ((Formula × Formula) → Option Int) → Option (List Formula)
 | 0 => fun _ _ _ _ _ => none
 | n + 1 => ob (kL n)
def lT (m d : Int) (f2 : (Formula × Formula) → Option Int) : Nat → (List Formula) → Int → Int → Option ((List Formula) × Int)
 | 0, _, _, _ => none
 | j + 1, i, h, b => (if (decide (b ≤ m)) then ((kL jP i h (wi0 .i64 (h + d)) b f2).bind fun l => (lT m d f2 j l b (wi0 .i64 (b + (wi0 .i64 (2 * d)))))) else some (i, h))
def lz (n : Int) (f2 : (Formula × Formula) → Option Int) : Nat → (List Formula) → Int → Option (List Formula)
 | 0, _, _ => none
 | l + 1, h, b => (if (decide (b < n)) then ((lT n b f2 jP h 0 (wi0 .i64 (2 * b))).bind fun (i, d) => (((if (decide ((wi0 .i64 (d + b)) < n)) then ((kL jP i d (wi0 .i64 (d + b)) n f2).bind fun m => some m) else some i) : Option (List Formula)).bind fun j => (lz n f2 l j (wi0 .i64 (b * 2))))) else some h)
def lA (m : Int) (f2 : (Formula × Formula) → Option Int) : Nat → (List Formula) → Int → Int → Option (List Formula)
 | 0, _, _, _ => none
 | n123 + 1, h, l, b => (if (decide (b ≤ m)) then ((mz h l b f2).bind fun i => (lA m f2 n123 i b (wi0 .i64 (b + 20)))) else ((mz h l m f2).bind fun j => ((lz m f2 jP j 20).bind fun d => some d)))
def pR (a0 : List Formula) (b : Int) (f2 : (Formula × Formula) → Option Int) : Option (List Formula) :=
 lA b f2 jP a0 0 20
def nR (a0 : List Formula) (f1 : (Formula × Formula) → Option Int) : Option (List Formula) :=
 ((pR a0 (a0.length : Int) f1).bind fun b => some b)
def pq (rec : (List Int) → Formula → Option (List Int)) : List Formula → (List Int) → Option (List Int)
 | [], b => some b
 | i :: d, b => ((rec b i).bind fun h => (pq rec d h))
def ua (rec : (List Int) → Formula → Option (List Int)) (d : List Int) (b : Formula) : Option (List Int) :=
 ((np d b.Op).bind fun l => (if (b.Op == 1) then ((oV l.2 b.jl).bind fun j => some j.2) else (((if (b.Op == 4) then ((np l.2 b.K).bind fun h => some h.2) else some l.2) : Option (List Int)).bind fun i => ((np i (b.Kids.length : Int)).bind fun m => pq rec b.Kids m.2))))
def oM : Nat → (List Int) → Formula → Option (List Int)
 | 0 => fun _ _ => none
 | n + 1 => ua (oM n)
def uI (b : List Int) (d : Formula) : Option (Bool × (List Int)) :=
 ((pU d).bind fun h => (if (!h) then some (false, b) else ((oM jP b d).bind fun i => some (true, i))))
def rh (a0 : Formula) : Option (List Int) :=
 ((uI ([]) a0).bind fun d => ((rU d.2).bind fun b => some b))
def rb (a0 i : Formula) : Option Int :=
 ((rh a0).bind fun b => ((rh i).bind fun d => ((uN b d).bind fun h => some h)))
def tE (a0 : List Formula) : Option (List Formula) :=
 ((qG a0).bind fun d => ((nR d (fun (x : (Formula × Formula)) => rb x.1 x.2)).bind fun b => some b))
def ma (d : Int) (f1 : (Formula × Formula) → Option Bool) : Nat → (List Formula) → Int → Int → Option ((List Formula) × Int)
 | 0, _, _, _ => none
 | l + 1, b, h, i => (if (decide (i < ((b.length - (Int.toNat d) : Nat) : Int))) then ((((kF (b.drop (Int.toNat d)) i).bind fun p => ((kF (b.drop (Int.toNat d)) (wi0 .i64 (i - 1))).bind fun q => ((f1 (p, q)).bind fun m => (if (!m) then ((kF (b.drop (Int.toNat d)) i).bind fun r => ((kF b h).bind fun s => some ((b.set (Int.toNat h) r), (wi0 .i64 (h + 1))))) else some (b, h))))) : Option ((List Formula) × Int)).bind fun (j, n) => (ma d f1 l j n (wi0 .i64 (i + 1)))) else some (b, h))
def lY (a0 : List Formula) (f1 : (Formula × Formula) → Option Bool) : Nat → Int → Option (List Formula)
 | 0, _ => none
 | i + 1, b => (if (decide (b < (a0.length : Int))) then ((kF a0 b).bind fun l => ((kF a0 (wi0 .i64 (b - 1))).bind fun m => ((f1 (l, m)).bind fun j => (if j then ((qi (decide (0 ≤ b) && decide (b ≤ (a0.length : Int)))).bind fun _ => ((ma b f1 jP a0 b 1).bind fun (h, d) => ((qi (decide (0 ≤ d) && decide (d ≤ (h.length : Int)))).bind fun _ => ((qi (decide (0 ≤ d) && decide (d ≤ ((nO h (Int.toNat d) (⟨0, 0, (⟨zS, zS⟩ : jl), []⟩ : Formula)).length : Int)))).bind fun _ => some ((nO h (Int.toNat d) (⟨0, 0, (⟨zS, zS⟩ : jl), []⟩ : Formula)).take (Int.toNat d)))))) else (lY a0 f1 i (wi0 .i64 (b + 1))))))) else some a0)
def oz (a0 : List Formula) (f1 : (Formula × Formula) → Option Bool) : Option (List Formula) :=
 (if (decide ((a0.length : Int) < 2)) then some a0 else lY a0 f1 jP 1)
def kz (j : List Formula) (f2 : (Formula × Formula) → Option Bool) : List Formula → Nat → Option Bool
 | [], _ => some true
 | i :: h, i95 => ((kF j (i95 : Int)).bind fun d => ((f2 (i, d)).bind fun b => (if (!b) then some false else (kz j f2 h (i95 + 1)))))
def lZ (a0 b : List Formula) (f2 : (Formula × Formula) → Option Bool) : Option Bool :=
 (if ((a0.length : Int) != (b.length : Int)) then some false else kz b f2 a0 0)
def uz (rec : Formula → Formula → Option Bool) (a0 b : Formula) : Option Bool :=
 ((if (a0.Op == b.Op) then some (a0.K == b.K) else some false).bind fun h => ((if h then some (jG a0.jl b.jl) else some false).bind fun i => ((if i then ((lZ a0.Kids b.Kids (fun (x : (Formula × Formula)) => rec x.1 x.2)).bind fun d => some d) else some false).bind fun j => some j)))
def mW : Nat → Formula → Formula → Option Bool
 | 0 => fun _ _ => none
 | n + 1 => uz (mW n)
def nu (a0 : kc) (h : Int) (a2 : List Formula) : Option (Formula × kc) :=
 ((yX h a2).bind fun m => ((nm m (fun (x : Formula) => pz x (wi0 .i64 (5 - h)))).bind fun i => (if i then some ((⟨(wi0 .i64 (5 - h)), 0, (⟨zS, zS⟩ : jl), []⟩ : Formula), a0) else ((tE m).bind fun j => ((oz j (fun (x : (Formula × Formula)) => mW jP x.1 x.2)).bind fun b => (((if (decide ((b.length : Int) > 64)) then some (⟨12⟩ : kc) else some a0) : Option kc).bind fun d => (if ((b.length : Int) == 1) then ((kF b 0).bind fun l => some (l, d)) else some ((⟨h, 0, (⟨zS, zS⟩ : jl), b⟩ : Formula), d))))))))
def lW (a0 : kc) : List Formula → Int → (List Formula) → Option (Formula × kc)
 | [], d, b => (if (decide (d ≤ 0)) then (sH.bind fun q => some (q, a0)) else (if (decide (d > (b.length : Int))) then (ya.bind fun r => some (r, a0)) else (if (d == (b.length : Int)) then ((nu a0 2 b).bind fun j => some (j.1, j.2)) else (if (d == 1) then ((nu a0 3 b).bind fun l => some (l.1, l.2)) else ((tE b).bind fun s => some ((⟨4, d, (⟨zS, zS⟩ : jl), s⟩ : Formula), a0))))))
 | i :: h, d, b => ((rH i 2).bind fun n => (if n then (lW a0 h (wi0 .i64 (d - 1)) b) else ((rH i 3).bind fun p => (if (!p) then ((lC 72 b ([i])).bind fun m => (lW a0 h d m)) else (lW a0 h d b)))))
def pB (a0 : kc) (b : Int) (a2 : List Formula) : Option (Formula × kc) :=
 lW a0 a2 b ([])
def mZ (rec : kc → Formula → Option (Formula × kc)) (p : Formula) : List Formula → (List Formula) → kc → Option (Formula × kc)
 | [], b, d => (if (p.Op == 4) then ((pB d p.K b).bind fun i => some (i.1, i.2)) else ((nu d p.Op b).bind fun j => some (j.1, j.2)))
 | n :: l, b, d => ((rec d n).bind fun h => ((lC 72 b ([h.1])).bind fun m => (mZ rec p l m h.2)))
def qC (rec : kc → Formula → Option (Formula × kc)) (a0 : kc) (b : Formula) : Option (Formula × kc) :=
 (if (b.Op == 1) then some (b, a0) else mZ rec b b.Kids ([]) a0)
def mG : Nat → kc → Formula → Option (Formula × kc)
 | 0 => fun _ _ => none
 | n + 1 => qC (mG n)
def uy (a0 : Formula) : Option (Formula × Int) :=
 ((pU a0).bind fun i => (if (!i) then some ((⟨0, 0, (⟨zS, zS⟩ : jl), []⟩ : Formula), 11) else ((mG jP (⟨0⟩ : kc) a0).bind fun b => ((if (b.2.e != 0) then some true else ((pU b.1).bind fun d => some (!d))).bind fun h => (if h then some ((⟨0, 0, (⟨zS, zS⟩ : jl), []⟩ : Formula), 12) else some (b.1, 0))))))
def wk (a0 d : Formula) : Option (Formula × Int) :=
 ((uy (⟨2, 0, (⟨zS, zS⟩ : jl), [a0, d]⟩ : Formula)).bind fun b => some (b.1, b.2))
def rE  : List Formula → Int → Int → Int → jl → (List Formula) → Option (Int × Int × Int × jl × (List Formula))
 | [], h, i, j, l, d => some (h, i, j, l, d)
 | n :: m, h, i, j, l, d => (if (h != 0) then some (h, i, j, l, d) else ((wk (⟨i, j, l, d⟩ : Formula) n).bind fun b => (rE m b.2 ((b.1).Op) ((b.1).K) ((b.1).jl) ((b.1).Kids))))
def uu (a0 : List Formula) : Option (Formula × Int) :=
 ((kF a0 0).bind fun x6 => ((uy x6).bind fun b => ((qi (decide (0 ≤ 1) && decide (1 ≤ (a0.length : Int)))).bind fun _ => ((rE (a0.drop (Int.toNat 1)) b.2 ((b.1).Op) ((b.1).K) ((b.1).jl) ((b.1).Kids)).bind fun (d, i, j, l, h) => (if (d != 0) then some ((⟨0, 0, (⟨zS, zS⟩ : jl), []⟩ : Formula), d) else some ((⟨i, j, l, h⟩ : Formula), 0))))))
def sr  : List nh → (List Formula) → Option (Formula × Int)
 | [], b => ((uu b).bind fun d => some (d.1, d.2))
 | j :: h, b => ((lC 72 b ([j.ju])).bind fun i => (sr h i))
def zn (a0 : jQ) (h : jm) : Option (Formula × Int) :=
 ((xm a0 h).bind fun b => (if (!b.2) then some ((⟨0, 0, (⟨zS, zS⟩ : jl), []⟩ : Formula), 42) else ((wu a0 h).bind fun d => sr d ([(b.1).ju]))))
def ou (rec : Formula → (jl → Option Bool) → Option Bool) (f1 : jl → Option Bool) (a0 : Formula) : List Formula → Int → Option Bool
 | [], b => (if (a0.Op == 2) then some (b == (a0.Kids.length : Int)) else (if (a0.Op == 3) then some (decide (b > 0)) else some (decide (b ≥ a0.K))))
 | i :: d, b => ((rec i f1).bind fun h => (if h then (ou rec f1 a0 d (wi0 .i64 (b + 1))) else (ou rec f1 a0 d b)))
def tT (rec : Formula → (jl → Option Bool) → Option Bool) (a0 : Formula) (f1 : jl → Option Bool) : Option Bool :=
 (if (a0.Op == 1) then ((f1 a0.jl).bind fun b => some b) else ou rec f1 a0 a0.Kids 0)
def oN : Nat → Formula → (jl → Option Bool) → Option Bool
 | 0 => fun _ _ => none
 | n + 1 => tT (oN n)
def tC (a0 : Formula) (f1 : jl → Option Bool) : Option Bool :=
 ((pU a0).bind fun h => ((if h then ((oN jP a0 f1).bind fun b => some b) else some false).bind fun d => some d))
def oO (a0 : jl) (j : List (jl × (List (ByteArray × Bool)))) (b : List jm) (i : List (jl × (List jm))) (d : List (ByteArray × (List jm))) (h : List jz) (l : Int) (c1 : ByteArray) : Option Bool :=
 ((rS j b i d h l a0 c1).bind fun m => some m)
def pQ (a0 : jQ) (h : ((List (jl × (List (ByteArray × Bool)))) × (List jm) × (List (jl × (List jm))) × (List (ByteArray × (List jm))) × (List jz) × Int × ByteArray)) : List kK → (List jm) → Option (List jm)
 | [], b => ((xx b).bind fun m => some m)
 | i :: d, b => ((zn a0 i.Signed.jm).bind fun r417 => ((if (r417.2 == 0) then ((tC r417.1 (fun (x : jl) => oO x h.1 h.2.1 h.2.2.1 h.2.2.2.1 h.2.2.2.2.1 h.2.2.2.2.2.1 h.2.2.2.2.2.2)).bind fun l => some l) else some false).bind fun n => (if n then ((lC 136 b ([i.Signed.jm])).bind fun j => (pQ a0 h d j)) else (pQ a0 h d b))))
def pM (a0 : jQ) (b : List jm) (a2 : ByteArray) : Option (List jm) :=
 ((tq b a2).bind fun d => pQ a0 d a0.jA ([]))
def ox (a0 n : jQ) : Nat → (List jm) → (List jm) → Int → Option ((List jm) × (List jm) × Int)
 | 0, _, _, _ => none
 | l + 1, b, d, j => ((pM a0 d n.Name).bind fun h => ((pM n b a0.Name).bind fun i => ((if ((h.length : Int) == (b.length : Int)) then some ((i.length : Int) == (d.length : Int)) else some false).bind fun m => (if m then some (b, d, j) else (ox a0 n l h i (wi0 .i64 (j + 1)))))))
def rz (a0 b : jQ) : Option ((List jm) × (List jm) × Int) :=
 ox a0 b jP ([]) ([]) 0
def qu (rec : (List Formula) → Option Int) : List Formula → Int → Option Int
 | [], d => some d
 | b :: i, d => ((rec b.Kids).bind fun h => (qu rec i (wi0 .i64 (d + (wi0 .i64 ((wi0 .i64 (1 + (wi0 .i64 (Int.tdiv (wi0 .i64 ((b.jl.jo.size : Int) + (b.jl.Word.size : Int))) 16)))) + h))))))
def uT (rec : (List Formula) → Option Int) (a0 : List Formula) : Option Int :=
 qu rec a0 0
def nQ : Nat → (List Formula) → Option Int
 | 0 => fun _ => none
 | n + 1 => uT (nQ n)
def qx  : List nh → Int → Option Int
 | [], d => some d
 | b :: h, d => ((nQ jP ([b.ju])).bind fun i => ((ud b.lx).bind fun j => (qx h (wi0 .i64 (d + (wi0 .i64 ((wi0 .i64 ((wi0 .i64 ((b.jl.jo.size : Int) + (b.jl.Word.size : Int))) + (wi0 .i64 (20 * i)))) + j)))))))
def qp (a0 : jQ) : List kK → Int → Option Int
 | [], b => ((qx a0.jO b).bind fun h => some h)
 | d :: i, b => ((((sw ([]) ([d.Signed])).bind fun m => some (m, ([d.ju]))) : Option (Int × (List Formula))).bind fun (n, j) => ((nQ jP j).bind fun l => (qp a0 i (wi0 .i64 (b + (wi0 .i64 (n + (wi0 .i64 (20 * l)))))))))
def uo (a0 : jQ) : Option Int :=
 qp a0 a0.jA (a0.Name.size : Int)
def wB (a0 : oH) : Option Int :=
 ((((uo a0.jo).bind fun i => ((uo a0.Client).bind fun j => some ((wi0 .i64 (i + j)), ([a0.Formula])))) : Option (Int × (List Formula))).bind fun (l, b) => ((nQ jP b).bind fun d => ((sw a0.Keys ([])).bind fun h => some (wi0 .i64 ((wi0 .i64 (l + (wi0 .i64 (20 * d)))) + h)))))
def qo (j : ByteArray) : List jz → (List jl) → Option (List jl)
 | [], b => some b
 | i :: d, b => (if (kv i.ke j) then ((lC 32 b ([i.jl])).bind fun h => (qo j d h)) else (qo j d b))
def sk (a0 : List jz) (b : ByteArray) : Option (List jl) :=
 qo b a0 ([])
def rT (rec : Formula → Option Int) : List Formula → Int → Option Int
 | [], b => some b
 | i :: h, b => ((rec i).bind fun d => (rT rec h (wi0 .i64 (b + d))))
def yM (rec : Formula → Option Int) (a0 : Formula) : Option Int :=
 rT rec a0.Kids 1
def uc : Nat → Formula → Option Int
 | 0 => fun _ => none
 | n + 1 => yM (uc n)
def sF (rec : Formula → Option Int) : List Formula → Int → Option Int
 | [], b => some (wi0 .i64 (b + 1))
 | i :: h, b => ((rec i).bind fun d => (sF rec h (if d > b then d else b)))
def ze (rec : Formula → Option Int) (a0 : Formula) : Option Int :=
 sF rec a0.Kids 0
def uR : Nat → Formula → Option Int
 | 0 => fun _ => none
 | n + 1 => ze (uR n)
def sP (rec : Formula → Option Bool) : List Formula → Option Bool
 | [] => some true
 | h :: b => ((rec h).bind fun d => (if (!d) then some false else (sP rec b)))
def za (rec : Formula → Option Bool) (a0 : Formula) : Option Bool :=
 (if (a0.Op == 1) then ((su a0.jl).bind fun r => ((if r then some ((a0.Kids.length : Int) == 0) else some false).bind fun j => ((if j then some (a0.K == 0) else some false).bind fun l => some l))) else ((if (decide (a0.Op < 1)) then some true else some (decide (a0.Op > 4))).bind fun m => ((if m then some true else some (!(jG a0.jl (⟨zS, zS⟩ : jl)))).bind fun n => ((if n then some true else some (decide ((a0.Kids.length : Int) > 8))).bind fun p => (if p then some false else ((if (decide (a0.Op < 4)) then some (a0.K != 0) else some false).bind fun q => ((if q then some true else ((if (a0.Op == 4) then ((if (decide ((a0.Kids.length : Int) < 1)) then some true else some (decide (a0.K < 0))).bind fun h => ((if h then some true else some (decide (a0.K > (a0.Kids.length : Int)))).bind fun i => some i)) else some false).bind fun d => some d)).bind fun b => (if b then some false else sP rec a0.Kids))))))))
def vh : Nat → Formula → Option Bool
 | 0 => fun _ => none
 | n + 1 => za (vh n)
def pW (a0 : Formula) : Option Bool :=
 ((uc jP a0).bind fun j => ((if (decide (j ≤ 64)) then ((uR jP a0).bind fun d => some (decide (d ≤ 6))) else some false).bind fun h => ((if h then ((vh jP a0).bind fun b => some b) else some false).bind fun i => some i)))
def vi (a0 : Formula) (b : Int) : Option Bool :=
 ((if (a0.Op == b) then some ((a0.Kids.length : Int) == 0) else some false).bind fun x6 => some x6)
def rW (rec : Formula → Option ByteArray) : List Formula → ByteArray → Option ByteArray
 | [], b => some b
 | j :: i, b => ((rec j).bind fun d => ((pj b d).bind fun h => (rW rec i h)))
def yH (rec : Formula → Option ByteArray) (a0 : Formula) : Option ByteArray :=
 ((qE a0.Op).bind fun i => (if (a0.Op == 1) then ((sv a0.jl).bind fun n => ((pj i n).bind fun j => some j)) else (((if (a0.Op == 4) then ((qE a0.K).bind fun b => ((pj i b).bind fun d => some d)) else some i) : Option ByteArray).bind fun m => ((qE (a0.Kids.length : Int)).bind fun h => ((pj m h).bind fun l => rW rec a0.Kids l)))))
def qX : Nat → Formula → Option ByteArray
 | 0 => fun _ => none
 | n + 1 => yH (qX n)
def xj (a0 m : Formula) : Option Int :=
 ((((pW a0).bind fun j => (if j then ((qX jP a0).bind fun l => some l) else some zS)) : Option ByteArray).bind fun b => ((((pW m).bind fun h => (if h then ((qX jP m).bind fun i => some i) else some zS)) : Option ByteArray).bind fun d => (if (pg b d) then some (-1) else (if (!(pg b d || kv b d)) then some 1 else some 0))))
def sK (j : Formula) (rec : Formula → Formula → Option Bool) : List Formula → Nat → Option Bool
 | [], _ => some true
 | h :: b, i182 => ((kF j.Kids (i182 : Int)).bind fun i => ((rec h i).bind fun d => (if (!d) then some false else (sK j rec b (i182 + 1)))))
def zc (rec : Formula → Formula → Option Bool) (a0 b : Formula) : Option Bool :=
 ((if (a0.Op != b.Op) then some true else some (a0.K != b.K)).bind fun d => ((if d then some true else some (!(jG a0.jl b.jl))).bind fun h => ((if h then some true else some ((a0.Kids.length : Int) != (b.Kids.length : Int))).bind fun i => (if i then some false else sK b rec a0.Kids 0))))
def tp : Nat → Formula → Formula → Option Bool
 | 0 => fun _ _ => none
 | n + 1 => zc (tp n)
def ri (d : List Formula) (h : Formula) : Nat → Int → Option Int
 | 0, _ => none
 | i + 1, b => ((if (decide (b > 0)) then ((kF d (wi0 .i64 (b - 1))).bind fun m => ((xj m h).bind fun j => some (decide (j > 0)))) else some false).bind fun l => (if l then (ri d h i (wi0 .i64 (b - 1))) else some b))
def mj (s : Bool) : List Formula → (List Formula) → Option (List Formula)
 | [], b => some b
 | h :: i, b => ((ri b h jP (b.length : Int)).bind fun d => ((if s then some (decide (d > 0)) else some false).bind fun p => ((if p then ((kF b (wi0 .i64 (d - 1))).bind fun r => ((tp jP r h).bind fun n => some n)) else some false).bind fun q => (if q then (mj s i b) else ((qi (decide (0 ≤ d) && decide (d ≤ (b.length : Int)))).bind fun _ => ((lC 72 ([]) (b.take (Int.toNat d))).bind fun j => ((lC 72 j ([h])).bind fun l => ((qi (decide (0 ≤ d) && decide (d ≤ (b.length : Int)))).bind fun _ => ((lC 72 l (b.drop (Int.toNat d))).bind fun m => (mj s i m))))))))))
def vp (a0 : List Formula) (b : Bool) : Option (List Formula) :=
 mj b a0 ([])
def pI (i : Int) (a0 : mu) : List Formula → Option ((Formula × mu) ⊕ Unit)
 | [] => some (Sum.inr ())
 | h :: b => ((vi h (wi0 .i64 (5 - i))).bind fun d => (if d then some (Sum.inl ((⟨(wi0 .i64 (5 - i)), 0, (⟨zS, zS⟩ : jl), []⟩ : Formula), a0)) else (pI i a0 b)))
def mP (l : Int) (a0 : mu) : List Formula → (List Formula) → Option (Formula × mu)
 | [], b => ((pI l a0 b).bind fun s => match s with | .inl p => some p | .inr _ => ((vp b true).bind fun d => ((if a0.QF then some true else some (decide ((d.length : Int) > 64))).bind fun j => (if ((d.length : Int) == 1) then ((kF d 0).bind fun r => some (r, (⟨j⟩ : mu))) else some ((⟨l, 0, (⟨zS, zS⟩ : jl), d⟩ : Formula), (⟨j⟩ : mu))))))
 | h :: i, b => (if (h.Op == l) then ((lC 72 b h.Kids).bind fun m => (mP l a0 i m)) else ((vi h (wi0 .i64 (5 - l))).bind fun q => (if q then some ((⟨(wi0 .i64 (5 - l)), 0, (⟨zS, zS⟩ : jl), []⟩ : Formula), a0) else ((lC 72 b ([h])).bind fun n => (mP l a0 i n)))))
def pw (a0 : mu) (b : Int) (a2 : List Formula) : Option (Formula × mu) :=
 mP b a0 a2 ([])
def mL  : List Formula → Int → (List Formula) → Option (Int × (List Formula))
 | [], d, b => some (d, b)
 | i :: h, d, b => ((vi i 2).bind fun l => (if l then (mL h (wi0 .i64 (d - 1)) b) else ((vi i 3).bind fun m => (if (!m) then ((lC 72 b ([i])).bind fun j => (mL h d j)) else (mL h d b)))))
def nl (rec : mu → Formula → Option (Formula × mu)) (t : Formula) : List Formula → (List Formula) → mu → Option (Formula × mu)
 | [], i, b => (if (decide (t.Op < 4)) then ((pw b t.Op i).bind fun l => some (l.1, l.2)) else ((mL i t.K ([])).bind fun (h, d) => (if (decide (h ≤ 0)) then some ((⟨2, 0, (⟨zS, zS⟩ : jl), []⟩ : Formula), b) else (if (decide (h > (d.length : Int))) then some ((⟨3, 0, (⟨zS, zS⟩ : jl), []⟩ : Formula), b) else (if (h == (d.length : Int)) then ((pw b 2 d).bind fun m => some (m.1, m.2)) else (if (h == 1) then ((pw b 3 d).bind fun n => some (n.1, n.2)) else ((vp d false).bind fun r => some ((⟨4, h, (⟨zS, zS⟩ : jl), r⟩ : Formula), b))))))))
 | s :: p, i, b => ((rec b s).bind fun j => ((lC 72 i ([j.1])).bind fun q => (nl rec t p q j.2)))
def tL (rec : mu → Formula → Option (Formula × mu)) (a0 : mu) (b : Formula) : Option (Formula × mu) :=
 (if (b.Op == 1) then some (b, a0) else nl rec b b.Kids ([]) a0)
def nT : Nat → mu → Formula → Option (Formula × mu)
 | 0 => fun _ _ => none
 | n + 1 => tL (nT n)
def xf (a0 : Formula) : Option (Formula × Int) :=
 ((pW a0).bind fun i => (if (!i) then some ((⟨0, 0, (⟨zS, zS⟩ : jl), []⟩ : Formula), 11) else ((nT jP (⟨false⟩ : mu) a0).bind fun b => ((if b.2.QF then some true else ((pW b.1).bind fun d => some (!d))).bind fun h => (if h then some ((⟨0, 0, (⟨zS, zS⟩ : jl), []⟩ : Formula), 12) else some (b.1, 0))))))
def sn (r : jm) : List nh → Int → Int → Int → jl → (List Formula) → Option (Int × Int × Int × jl × (List Formula))
 | [], h, i, j, l, d => some (h, i, j, l, d)
 | n :: m, h, i, j, l, d => ((if (h == 0) then ((rA n.lx r).bind fun p => some p) else some false).bind fun q => (if q then ((xf (⟨2, 0, (⟨zS, zS⟩ : jl), [(⟨i, j, l, d⟩ : Formula), n.ju]⟩ : Formula)).bind fun b => (sn r m b.2 ((b.1).Op) ((b.1).K) ((b.1).jl) ((b.1).Kids))) else (sn r m h i j l d)))
def wy (p : jm) (a0 : jQ) : List kK → Option (Formula × Int)
 | [] => some ((⟨0, 0, (⟨zS, zS⟩ : jl), []⟩ : Formula), 42)
 | d :: i => (if (!(ko d.Signed.jm p)) then (wy p a0 i) else ((xf d.ju).bind fun b => ((sn p a0.jO b.2 ((b.1).Op) ((b.1).K) ((b.1).jl) ((b.1).Kids)).bind fun (h, l, m, n, j) => (if (h != 0) then some ((⟨0, 0, (⟨zS, zS⟩ : jl), []⟩ : Formula), h) else some ((⟨l, m, n, j⟩ : Formula), 0)))))
def Cp (a0 : jQ) (b : jm) : Option (Formula × Int) :=
 wy b a0 a0.jA
def xU (h : jl) : List jl → Option Bool
 | [] => some false
 | d :: b => (if (jG d h) then some true else (xU h b))
def A0 (a0 : List jl) (b : jl) : Option Bool :=
 xU b a0
def qS (rec : Formula → (List jl) → Option Bool) (i : List jl) (a0 : Formula) : List Formula → Int → Option Bool
 | [], b => (if (a0.Op == 2) then some (b == (a0.Kids.length : Int)) else (if (a0.Op == 3) then some (decide (b > 0)) else some (decide (b ≥ a0.K))))
 | j :: d, b => ((rec j i).bind fun h => (if h then (qS rec i a0 d (wi0 .i64 (b + 1))) else (qS rec i a0 d b)))
def zd (rec : Formula → (List jl) → Option Bool) (a0 : Formula) (b : List jl) : Option Bool :=
 (if (a0.Op == 1) then ((A0 b a0.jl).bind fun d => some d) else qS rec b a0 a0.Kids 0)
def tj : Nat → Formula → (List jl) → Option Bool
 | 0 => fun _ _ => none
 | n + 1 => zd (tj n)
def qR (a0 : jQ) (j : List jl) : List kK → (List jm) → Option (List jm)
 | [], b => ((yw b).bind fun n => some n)
 | i :: d, b => ((Cp a0 i.Signed.jm).bind fun h => ((if (h.2 == 0) then ((tj jP h.1 j).bind fun m => some m) else some false).bind fun p => (if p then ((lC 136 b ([i.Signed.jm])).bind fun l => (qR a0 j d l)) else (qR a0 j d b))))
def vg (a0 : jQ) (d : List jm) (a2 : ByteArray) : Option (List jm) :=
 ((vm d).bind fun h => ((sk h a2).bind fun b => qR a0 b a0.jA ([])))
def um (a0 p : jQ) : Nat → (List jm) → (List jm) → Int → Option ((List jm) × (List jm) × Int)
 | 0, _, _, _ => none
 | n296 + 1, b, d, j => ((vg a0 d p.Name).bind fun h => ((vg p b a0.Name).bind fun i => ((uX h b).bind fun l => ((if l then ((uX i d).bind fun m => some m) else some false).bind fun n => (if n then some (b, d, j) else (um a0 p n296 h i (wi0 .i64 (j + 1))))))))
def BN (a0 b : jQ) : Option ((List jm) × (List jm) × Int) :=
 um a0 b jP ([]) ([]) 0
def yS (a0 h : jQ) : Option ((List jm) × (List (jl × (List (ByteArray × Bool)))) × (List jm) × (List (jl × (List jm))) × (List (ByteArray × (List jm))) × (List jz) × Int × ByteArray) :=
 ((rz a0 h).bind fun d => ((vo d.2.1).bind fun b => some (d.2.1, b.1, b.2.1, b.2.2.1, b.2.2.2.1, b.2.2.2.2.1, b.2.2.2.2.2, h.Name)))
def tX (a0 : jl) (j : List (jl × (List (ByteArray × Bool)))) (b : List jm) (i : List (jl × (List jm))) (d : List (ByteArray × (List jm))) (h : List jz) (m : Int) (l : ByteArray) (n : List kK) (p : List nh) : Option Bool :=
 ((rS j b i d h m a0 l).bind fun q => some q)
def pT (a0 d : jQ) (a2 : Formula) : Option Bool :=
 ((yS a0 d).bind fun b => ((tC a2 (fun (x : jl) => tX x b.2.1 b.2.2.1 b.2.2.2.1 b.2.2.2.2.1 b.2.2.2.2.2.1 b.2.2.2.2.2.2.1 b.2.2.2.2.2.2.2 d.jA d.jO)).bind fun h => some h))
def Cv (a0 i : jQ) : Option (List jl) :=
 ((BN a0 i).bind fun b => ((vm b.2.1).bind fun d => ((sk d i.Name).bind fun h => some h)))
def xX (a0 j : jQ) (a2 : Formula) : Option Bool :=
 ((pW a2).bind fun i => ((if i then ((Cv a0 j).bind fun b => ((tj jP a2 b).bind fun d => some d)) else some false).bind fun h => some h))
def pe (a0 : List jm) (f1 : jm → Option Bool) : Option Bool :=
 ((oB a0 f1).bind fun b => some (decide (b ≥ 0)))
structure jK where
 Kind : Int
 End : Int
 At : Int
def jV (x : jK) : List Value := [.int .i64 x.Kind, .int .i64 x.End, .int .i64 x.At]
theorem mF (x : jK) : (jV x).length = 3 := rfl
theorem tS (x : jK) : ∀ u ∈ jV x, u.oneCell' = true := by
 intro u hu
 simp only [jV, aK, cV, eS] at hu
 rcases hu with rfl | rfl | rfl <;> rfl
def so  : List kK → (List jm) → Option (List jm)
 | [], b => some b
 | i :: h, b => ((lC 136 b ([i.Signed.jm])).bind fun d => (so h d))
def xI (a0 : jQ) : Option (List jm) :=
 so a0.jA ([])
def oJ (h : List jm) (a0 : Int) (a3 : List jm) : List kK → Nat → (List jK) → Option (List jK)
 | [], _, b => some b
 | i :: d, i208, b => ((pf h i.Signed.jm).bind fun m => (if (!m) then ((lC 24 b ([(⟨2, a0, (i208 : Int)⟩ : jK)])).bind fun j => (oJ h a0 a3 d (i208 + 1) j)) else ((pf a3 i.Signed.jm).bind fun n => (if (!n) then ((lC 24 b ([(⟨1, a0, (i208 : Int)⟩ : jK)])).bind fun l => (oJ h a0 a3 d (i208 + 1) l)) else (oJ h a0 a3 d (i208 + 1) b)))))
def xD (a0 : Int) (h a2 : jQ) (a3 : List jm) : Option (List jK) :=
 ((xI a2).bind fun b => ((pM h b a2.Name).bind fun d => oJ d a0 a3 h.jA 0 ([])))
def vn (a0 : jm) (b : List jm) : Option Bool :=
 ((pf b a0).bind fun d => some d)
def qw (l : List jm) (a0 : Int) : List nh → Nat → (List jK) → Option (List jK)
 | [], _, b => some b
 | j :: d, i124, b => ((pe j.lx (fun (x : jm) => vn x l)).bind fun i => (if (!i) then ((lC 24 b ([(⟨3, a0, (i124 : Int)⟩ : jK)])).bind fun h => (qw l a0 d (i124 + 1) h)) else (qw l a0 d (i124 + 1) b)))
def yn (a0 : Int) (b : jQ) : Option (List jK) :=
 ((xI b).bind fun d => qw d a0 b.jO 0 ([]))
def xF (a0 : oH) : Option (List jK) :=
 ((uy a0.Formula).bind fun d => ((if (d.2 == 0) then (sH.bind fun h => ((mW jP d.1 h).bind fun i => some i)) else some false).bind fun j => (if j then some [(⟨4, 0, 0⟩ : jK)] else ((pT a0.jo a0.Client a0.Formula).bind fun b => (if (!b) then some [(⟨5, 0, 0⟩ : jK)] else some [])))))
def pC (d : Int) : Option (List jK) :=
 (if (decide (d < 0)) then none else (((if (decide ((wi0 .i64 (d - (wi0 .i64 (0 - 0)))) > 0)) then ((F4 24 (⟨0, 0, 0⟩ : jK) (wi0 .i64 (d - (wi0 .i64 (0 - 0))))).bind fun b => ((qi (decide (0 ≤ 0) && decide (0 ≤ (b.length : Int)))).bind fun _ => some (b.take (Int.toNat 0)))) else some ([])) : Option (List jK)).bind fun h => some h))
def mX  : List (List jK) → (List jK) → Option (List jK)
 | [], b => some b
 | i :: d, b => ((lC 24 b i).bind fun h => (mX d h))
def mV (a0 : List (List jK)) : List (List jK) → Int → Option (List jK)
 | [], b => ((pC b).bind fun j => ((mX a0 j).bind fun d => some d))
 | h :: i, b => (if (decide ((wi0 .i64 (b + (h.length : Int))) < 0)) then none else (mV a0 i (wi0 .i64 (b + (h.length : Int)))))
def qc (a0 : List (List jK)) : Option (List jK) :=
 mV a0 a0 0
def sV (a0 : oH) : Option (List jK) :=
 ((rz a0.jo a0.Client).bind fun b => ((xD 0 a0.jo a0.Client b.1).bind fun d => ((yn 0 a0.jo).bind fun h => ((xD 1 a0.Client a0.jo b.2.1).bind fun i => ((yn 1 a0.Client).bind fun j => ((xF a0).bind fun l => ((qc ([d, h, i, j, l])).bind fun m => some m)))))))
def rG  : List jK → ByteArray → Option ByteArray
 | [], b => ((PN b).bind fun n => some n)
 | d :: h, b => ((yo d.Kind).bind fun i => ((pj i (⟨#[32]⟩ : ByteArray)).bind fun p => ((yo d.End).bind fun j => ((pj p j).bind fun q => ((pj q (⟨#[32]⟩ : ByteArray)).bind fun r => ((yo d.At).bind fun l => ((pj r l).bind fun s => ((pj s (⟨#[10]⟩ : ByteArray)).bind fun t => ((EX b t).bind fun m => (rG h m))))))))))
def Bk (a0 : List jK) : Option ByteArray :=
 rG a0 zS
def pP (h : Int) : List jK → Int → Option Int
 | [], b => some b
 | i :: d, b => (if (i.Kind == h) then (pP h d (wi0 .i64 (b + 1))) else (pP h d b))
def ve (a0 : List jK) (b : Int) : Option Int :=
 pP b a0 0
def ul  : Option Bool :=
 ((sV (⟨(⟨(⟨#[111, 119, 110]⟩ : ByteArray), [], []⟩ : jQ), (⟨(⟨#[99, 108, 105]⟩ : ByteArray), [], []⟩ : jQ), (⟨2, 0, (⟨zS, zS⟩ : jl), []⟩ : Formula), 0, (⟨0, 0⟩ : xR), 0, 0, 0, []⟩ : oH)).bind fun i => ((sV (⟨(⟨(⟨#[111, 119, 110]⟩ : ByteArray), [], []⟩ : jQ), (⟨(⟨#[99, 108, 105]⟩ : ByteArray), [], []⟩ : jQ), (⟨3, 0, (⟨zS, zS⟩ : jl), []⟩ : Formula), 0, (⟨0, 0⟩ : xR), 0, 0, 0, []⟩ : oH)).bind fun h => ((if ((i.length : Int) == 1) then ((kF i 0).bind fun l => some (l.Kind == 4)) else some false).bind fun n => ((if n then ((Bk i).bind fun d => some (kv d (⟨#[52, 32, 48, 32, 48, 10]⟩ : ByteArray))) else some false).bind fun p => ((if p then some ((h.length : Int) == 1) else some false).bind fun q => ((if q then ((kF h 0).bind fun j => some (j.Kind == 5)) else some false).bind fun r => ((if r then ((ve i 4).bind fun b => some (b == 1)) else some false).bind fun s => ((if s then ((ve i 5).bind fun m => some (m == 0)) else some false).bind fun t => some t))))))))
def tF  : List kK → (List jm) → Option (List jm)
 | [], b => some b
 | i :: h, b => ((lC 136 b ([i.Signed.jm])).bind fun d => (tF h d))
def yp (a0 : jQ) : Option (List jm) :=
 tF a0.jA ([])
def tG (m : jQ) : List jm → Bool → Option Bool
 | [], b => some b
 | j :: d, b => ((if b then ((yp m).bind fun h => ((rA h j).bind fun i => some (!i))) else some false).bind fun l => (tG m d l))
def rI (m : jQ) (a0 : Int) : List nh → Nat → (List jK) → Option (List jK)
 | [], _, b => some b
 | j :: h, d, b => ((tG m j.lx true).bind fun l => (if l then ((lC 24 b ([(⟨3, a0, (d : Int)⟩ : jK)])).bind fun i => (rI m a0 h (d + 1) i)) else (rI m a0 h (d + 1) b)))
def qm (h : List jm) (a0 : Int) (a3 : List jm) (l : jQ) : List kK → Nat → (List jK) → Option (List jK)
 | [], _, b => ((rI l a0 l.jO 0 b).bind fun j => some j)
 | i :: d, i210, b => ((rA h i.Signed.jm).bind fun p => (if (!p) then ((lC 24 b ([(⟨2, a0, (i210 : Int)⟩ : jK)])).bind fun m => (qm h a0 a3 l d (i210 + 1) m)) else ((rA a3 i.Signed.jm).bind fun q => (if (!q) then ((lC 24 b ([(⟨1, a0, (i210 : Int)⟩ : jK)])).bind fun n => (qm h a0 a3 l d (i210 + 1) n)) else (qm h a0 a3 l d (i210 + 1) b)))))
def AZ (a0 : Int) (b a2 : jQ) (a3 : List jm) : Option (List jK) :=
 ((yp a2).bind fun d => ((vg b d a2.Name).bind fun h => qm h a0 a3 b b.jA 0 ([])))
def CV (a0 : oH) : Option (List jK) :=
 ((BN a0.jo a0.Client).bind fun l => ((AZ 0 a0.jo a0.Client l.1).bind fun p => ((AZ 1 a0.Client a0.jo l.2.1).bind fun q => ((lC 24 p q).bind fun d => ((xf a0.Formula).bind fun b => ((if (b.2 == 0) then some (((b.1).Op) == 2) else some false).bind fun m => ((if m then some ((((b.1).Kids).length : Int) == 0) else some false).bind fun n => (if n then ((lC 24 d ([(⟨4, 0, 0⟩ : jK)])).bind fun h => some h) else ((xX a0.jo a0.Client a0.Formula).bind fun j => (if (!j) then ((lC 24 d ([(⟨5, 0, 0⟩ : jK)])).bind fun i => some i) else some d))))))))))
def uG  : List jK → ByteArray → Option ByteArray
 | [], d => some d
 | b :: h, d => ((yo b.Kind).bind fun i => ((pj i (⟨#[32]⟩ : ByteArray)).bind fun m => ((yo b.End).bind fun j => ((pj m j).bind fun n => ((pj n (⟨#[32]⟩ : ByteArray)).bind fun p => ((yo b.At).bind fun l => ((pj p l).bind fun q => ((pj q (⟨#[10]⟩ : ByteArray)).bind fun r => ((pj d r).bind fun s => (uG h s))))))))))
def oy (a0 : oH) (h : ((List jm) × (List jm) × Int)) : List jK → Option Bool
 | [] => some true
 | b :: d => ((if (decide (b.End < 0)) then some true else some (decide (b.End > 1))).bind fun l => ((if l then some true else ((if (decide (b.Kind ≤ 2)) then ((if (decide (b.At < 0)) then some true else ((kF ([(⟨a0.jo.Name, a0.jo.jA, a0.jo.jO⟩ : jQ), (⟨a0.Client.Name, a0.Client.jA, a0.Client.jO⟩ : jQ)]) b.End).bind fun v => some (decide (b.At ≥ (v.jA.length : Int))))).bind fun u => some u) else some false).bind fun t => some t)).bind fun m => (if m then some false else ((if (decide (b.Kind ≤ 2)) then ((kF ([h.1, h.2.1]) b.End).bind fun q => ((kF ([(⟨a0.jo.Name, a0.jo.jA, a0.jo.jO⟩ : jQ), (⟨a0.Client.Name, a0.Client.jA, a0.Client.jO⟩ : jQ)]) b.End).bind fun r => ((kF r.jA b.At).bind fun s => ((rA q s.Signed.jm).bind fun j => some j)))) else some false).bind fun n => (if n then some false else ((if (b.Kind == 4) then ((pT (⟨a0.jo.Name, a0.jo.jA, a0.jo.jO⟩ : jQ) (⟨a0.Client.Name, a0.Client.jA, a0.Client.jO⟩ : jQ) (⟨a0.Formula.Op, a0.Formula.K, a0.Formula.jl, a0.Formula.Kids⟩ : Formula)).bind fun i => some (!i)) else some false).bind fun p => (if p then some false else (oy a0 h d))))))))
def tg (a0 : oH) : Option Bool :=
 (ul.bind fun b => (if (!b) then some false else ((wB a0).bind fun d => (if (decide (d > 6000)) then some true else ((rz a0.jo a0.Client).bind fun h => ((sV (⟨(⟨a0.jo.Name, a0.jo.jA, a0.jo.jO⟩ : jQ), (⟨a0.Client.Name, a0.Client.jA, a0.Client.jO⟩ : jQ), (⟨a0.Formula.Op, a0.Formula.K, a0.Formula.jl, a0.Formula.Kids⟩ : Formula), a0.zH, a0.qT, a0.tD, a0.xl, a0.uV, a0.Keys⟩ : oH)).bind fun i => oy a0 h i))))))
end
end Go.Proofs.YtjjjihkifgdhgaaGreatDoor
