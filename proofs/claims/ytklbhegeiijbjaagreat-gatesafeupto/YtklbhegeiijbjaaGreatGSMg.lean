/- a part of a proof of GateSafe -/
import Derived.Test.YtklbhegeiijbjaaGreatRtVg
import Derived.Shelf.SlSortCmp.NoneTotal
import Derived.Shelf.SortM.Plain
import Derived.Shelf.SortM.SortNone
import Derived.Shelf.SlIter.Sorted
import Derived.Shelf.SlIter.Nil
import Derived.Test.YtklbhegeiijbjaaGreatProg
import Derived.KernelRfl
set_option linter.all false
namespace Go.Proofs.YtklbhegeiijbjaaGreat
open Go.IntKind renaming wrap → wi0
open Go.RowKit
section
variable {dd : Bool}
def Au {α : Type} (R : qp α) : lZ → List Value → α → Prop := fun μ vs x => ∃ ys, vs = [.agg ys.toArray] ∧ R μ ys x
def wH {α β : Type} (R : qp α) (S : qp β) : lZ → List Value → α × β → Prop := fun μ vs x => ∃ ys zs, vs = [.agg ys.toArray, .agg zs.toArray] ∧ R μ ys x.1 ∧ S μ zs x.2
theorem Au.mk {α : Type} {R : qp α} {k : Nat} {μ μ' : lZ} {ys : List Value} {x : α} (a : Deep R k) (h : R μ ys x) (b : lP μ μ') : Au R μ' [.agg ys.toArray] x := ⟨ys, rfl, a.mono _ _ _ _ b h⟩
theorem wH.mk {α β : Type} {R : qp α} {S : qp β} {k m : Nat} {μ μ' : lZ} {ys zs : List Value} {x : α} {y : β} (c : Deep R k) (d : Deep S m) (h : R μ ys x) (b : S μ zs y) (a : lP μ μ') : wH R S μ' [.agg ys.toArray, .agg zs.toArray] (x, y) :=
 ⟨ys, zs, rfl, c.mono _ _ _ _ a h, d.mono _ _ _ _ a b⟩
def xE {α β : Type} (P : Program) (fv : Value) (μ : lZ) (a : lZ → List Value → α → Prop) (b : β → Value) (pm : α → Option β) : Prop :=
 ∃ f first caps, fv = .func (.func f) first caps ∧ (∀ args w, (callFunc f args).run P w = .ok (.enter f args) w) ∧ ∀ W x vs r, lP μ (hp W) → a (hp W) vs x → pm x = some r → lV false P f (first.toList ++ (vs ++ caps.toList)) W (b r)
theorem xE.form {α β : Type} {P : Program} {fv : Value} {μ : lZ} {c : lZ → List Value → α → Prop} {d : β → Value} {pm : α → Option β} (h : xE P fv μ c d pm) : ∃ f a b, fv = .func f a b := let ⟨f, a, b, h, _⟩ := h; ⟨_, a, b, h⟩
end
section
variable {P : Program} {W : World} {E : Nat → Value} {d : Option Nat} {ty : TypeId} {pos : String} {af : Array Edge} {g : Option (Nat × Bool)} {F : Nat → Prop} {w : World} {μ μ0 : lZ} {L : List (Nat × Obj)}
theorem xE.mono {α β : Type} {fv : Value} {a : lZ → List Value → α → Prop} {b : β → Value} {pm : α → Option β} (h : xE P fv μ a b pm) (g : lP μ μ0) : xE P fv μ0 a b pm := by
 obtain ⟨f, first, caps, h1, c, d⟩ := h
 exact ⟨f, first, caps, h1, c, fun W x vs r h => d W x vs r (g.trans h)⟩
theorem zz {α β : Type} {K : Value → World → Prop} {fv : Value} {i : lZ → List Value → α → Prop} {j : β → Value} {pm : α → Option β} {b : Operand} {ax : Array Operand} {ats : Array TypeId} (x : α) {vs : List Value} {r : β} (a : ST false F w W μ L) (s : xE P fv μ0 i j pm) (u : lP μ0 μ) (q : i (hp W) vs x) (t : lC E b = fv) (ha : ax.map (lC E) ++ (#[] : Array Value) = vs.toArray) (hm : pm x = some r) (h : ∀ W', ST false F w W' μ L → K (j r) W') : oB P E ⟨d, .call ⟨.value b, ax, ats⟩, ty, pos, af, g⟩ W K := by
 obtain ⟨f, first, caps, rfl, k, l⟩ := s
 have c : ax.map (lC E) = vs.toArray := by simpa using ha
 refine .inr (.inr ⟨f, (first.toList ++ (vs ++ caps.toList)).toArray, ?_, dJ (l W x vs r (u.trans a.lx) q hm) (fun _ _ ⟨n, o⟩ => ⟨_, n, h _ (a.Fm o)⟩)⟩)
 show (do let d ← resolve (lC E) ⟨.value b, ax, ats⟩ ty; invoke d.target d.args : Sem Next).run P W = _
 simp only [resolve, t, Deferred.ofValue, cC, cV, bM, invoke, c, k]
 congr 2
 simp
end
section
variable {dd : Bool}
variable {β : Type} {Rl : qp β} {k : Nat} {μ : lZ} {v : Value} {l : List β} {e : TypeId} {B : List (Nat × Obj)}
variable {F : Nat → Prop} {w W : World} {L : List (Nat × Obj)}
variable {P : Program} {E : Nat → Value} {d : Option Nat} {ty : TypeId} {pos : String} {af : Array Edge} {g : Option (Nat × Bool)}
theorem JC {α : Type} {enc : α → List Value} (hk : ∀ x, (enc x).length = k) (c : 0 < k) (d : ∀ x y, enc x = enc y → x = y) : ∀ {l m : List α}, (l.map enc).flatten = (m.map enc).flatten → l = m
 | [], [], _ => rfl
 | [], b :: m, h => by
  have := aY List.length h
  simp only [gL, dB, bQ, bF, bJ, aD, hk] at this
  omega
 | a :: l, [], h => by
  have := aY List.length h
  simp only [gL, dB, bQ, bF, bJ, aD, hk] at this
  omega
 | a :: l, b :: m, h => by
  simp only [bF, bJ] at h
  obtain ⟨h1, g⟩ := List.append_inj h (by rw [hk, hk])
  rw [d _ _ h1, JC hk c d g]
theorem TU (x y : xX k) (h : wx x = wx y) : x = y := Subtype.ext h
theorem lR.pre {v1 : Value} {cl a : List (xX k)} (d : 0 < k) (h : lR e wx k v cl B) (h1 : lR e wx k v1 a B) (c : a.length ≤ cl.length) : a = cl.take a.length := by
 rcases h with ⟨rfl, rfl, rfl⟩ | ⟨r, cap, b, rfl, rfl, s, t, u, o⟩
 ·simp at c; simp [c]
 ·rcases h1 with ⟨_, _, h⟩ | ⟨g1, g, i, rfl, j, q, a2, a3, a4⟩
  ·cases h
  ·cases j
   refine JC AY d TU ?_
   rw [← a4]
   have hle : a.length * k ≤ cl.length * k := cP _ c
   have : b.toList.take (a.length * k) = (b.toList.take (cl.length * k)).take (a.length * k) := by rw [iP, dQ hle]
   rw [this, o]
   have l : (cl.map wx).flatten = ((cl.take a.length).map wx).flatten ++ ((cl.drop a.length).map wx).flatten := by rw [← cR, ← cJ, iZ]
   have n : ((cl.take a.length).map wx).flatten.length = a.length * k := by rw [rp AY, dK, dQ c]
   rw [l, ← n, List.take_left]
theorem qK.replicate {α β : Type} {Q : α → β → Prop} {a : α} {b : β} (h : Q a b) : ∀ n, qK Q (List.replicate n a) (List.replicate n b)
 | 0 => .nil
 | n + 1 => .cons h (qK.replicate h n)
theorem qK.TT {α β : Type} {Q : α → β → Prop} {l : List α} {m : List β} (h : qK Q l m) {a : α} {b : β} (c : Q a b) (i : Nat) : qK Q (oZ l i a) (oZ m i b) := by
 unfold oZ
 rw [h.length]
 exact (h.take i).append (qK.replicate c _)
theorem G6 {t e' : TypeId} {x ih : Operand} {u : IntKind} {i : Int} (r : P.underlying t = some (.slice e')) (he : ∀ w, (sizeOf e').run P w = .ok k w) (s : lC E x = v) (o : lC E ih = .int u i) (h : mO e Rl k μ v l B) (c : 0 ≤ i) (q : i ≤ l.length) :
  ∃ a, mO e Rl k μ a (l.take i.toNat) B ∧ ∀ W, nx P E ⟨d, .slice t x none (some ih) none, ty, pos, af, g⟩ W a W := by
 obtain ⟨cl, h1, b⟩ := h
 obtain ⟨a, j, n⟩ := zf (d := d) (ty := ty) (pos := pos) (af := af) (g := g) r he s o h1 AY c (by rw [b.length]; exact q)
 exact ⟨a, ⟨_, j, b.take _⟩, n⟩
theorem BL {t e' : TypeId} {x a : Operand} {r : IntKind} {i : Int} (o : P.underlying t = some (.slice e')) (he : ∀ w, (sizeOf e').run P w = .ok k w) (q : lC E x = v) (j : lC E a = .int r i) (h : mO e Rl k μ v l B) (b : 0 ≤ i) (n : i ≤ l.length) :
  ∃ u, Bs k v i.toNat u ∧ ∀ W, nx P E ⟨d, .slice t x (some a) none none, ty, pos, af, g⟩ W u W := by
 obtain ⟨cl, h1, c⟩ := h
 exact vz o he q j h1 b (by rw [c.length]; exact n)
theorem Mg {t e' : TypeId} {x : Operand} {u : Value} {i : Nat} (b : P.underlying t = some (.slice e')) (c : lC E x = u) (hu : Bs k v i u) (h : mO e Rl k μ v l B) : nx P E ⟨d, .call ⟨.builtin .len, #[x], #[t]⟩, ty, pos, af, g⟩ W (.int .i64 ((l.length - i : Nat) : Int)) W := by
 obtain ⟨cl, h1, a⟩ := h
 rw [← a.length]
 exact EA b c hu h1
theorem BW {t e' : TypeId} {x j : Operand} {I : IntKind} {i : Int} {x0 : β} {u : Value} {o : Nat} {A : List Value → Prop} (z : ∀ {ys}, Rl μ ys x0 → A ys) (F : P.underlying t = some (.slice e')) (he : ∀ w, (sizeOf e').run P w = .ok k w) (G : lC E x = u) (s : lC E j = .int I i) (h : mO e Rl k μ v l B) (hu : Bs k v o u) (n : 0 ≤ i) (y : (l.drop o)[i.toNat]? = some x0) :
  ∃ p, (∃ ys, A ys ∧ At (Ba B) p ys ∧ BB B k p (o + i.toNat)) ∧ ∀ W, nx P E ⟨d, .indexAddr t x j, ty, pos, af, g⟩ W p W := by
 obtain ⟨cl, h1, q⟩ := h
 obtain ⟨c, b, D⟩ := (q.drop o).get y
 obtain ⟨p, a, r⟩ := vB (d := d) (ty := ty) (pos := pos) (af := af) (g := g) F he G s h1 hu n b
 exact ⟨p, ⟨c.1, z D, a.at h1 AY (xJ b), a⟩, r⟩
theorem Em {K : Value → World → Prop} {z : β} {zs : List Value} {Y : List (Nat × Obj)} {t e' : TypeId} {x : Operand} {u c : Value} {i : Nat} (o : Deep Rl k) (b : ST dd F w W μ (B ++ Y)) (h : mO e Rl k μ v l B) (a : Rl μ zs z) (s : P.underlying t = some (.slice e')) (A : ∀ w, (zeroValue e').run P w = .ok c w) (hu : Bs k v i u) (r : c.cells = zs.toArray) (y : lC E x = u) (q : ∀ W' R', ST dd F w W' μ (R' ++ Y) → mO e Rl k μ v (oZ l i z) R' → K (.tuple #[]) W') : oB P E ⟨d, .call ⟨.builtin .clear, #[x], #[t]⟩, ty, pos, af, g⟩ W K := by
 obtain ⟨cl, h1, n⟩ := h
 exact yA (o.cell a) b h1 AY OE s A hu r y (fun W' R' j a2 => q W' R' j ⟨_, a2, n.TT a i⟩)
end
section
variable {P : Program} {W : World} {E : Nat → Value} {d : Option Nat} {ty : TypeId} {pos : String} {af : Array Edge} {g : Option (Nat × Bool)}
theorem Oe {c n : TypeId} {x y : Operand} {fv : Value} {s u : Array TypeId} {bb : Bool} (j : P.underlying c = some (.func s u bb)) (h : ∃ f a b, fv = .func f a b) (k : lC E x = fv) (l : lC E y = .nilFunc) :
  nx P E ⟨d, .binOp .neq c x y n, ty, pos, af, g⟩ W (.bool true) W := by
 obtain ⟨f, a, b, rfl⟩ := h
 show (do let r ← (do eqGuard .neq c x y (lC E x) (lC E y); binOp .neq c (lC E x) (lC E y)); pure (.value r) : Sem Next).run P W = _
 rw [k, l]
 have i := Gb 9999 j f a b W
 simp [eqGuard, binOp, Op.equal, show Op.maxDepth = 9999 + 1 from rfl, i]
end
theorem bS {α β : Type} {m : Option α} {f : α → Option β} {r : β} {G : Prop} (h : m.bind f = some r) (k : ∀ x, m = some x → f x = some r → G) : G :=
 let ⟨x, a, b⟩ := bind_some h
 k x a b
theorem sj {α : Type} {a b : α} (h : some a = some b) : a = b := Option.some.inj h
theorem bC {α : Type} {b : Bool} {x y r : α} {G : Prop} (h : (if b = true then x else y) = r) (a : b = true → x = r → G) (k2 : b = false → y = r → G) : G := by
 rcases MW b with e | e
 ·exact a e (RL e h)
 ·exact k2 e (RP e h)
theorem cB {a b : Bool} (h : a = b) : Value.bool a = Value.bool b := aY Value.bool h
theorem nb {a b : Nat} (h : Nat.ble a b = true := by exact rfl) : a ≤ b := Nat.le_of_ble_eq_true h
def Tv : Nat → Nat → List Bool
 | 0, _ => []
 | n + 1, m => (m % 2 == 1) :: Tv n (m / 2)
def bm (n m : Nat) : Array Bool := (Tv n m).toArray
section
variable {P : Program} {n : Nat} {Q : sm} {E : Nat → Value} {W : World}
theorem CI {α : Type} {co : Operand} {b : Bool} {x y : Code} {A B r : α} (hm : (if b = true then A else B) = r) (a : lC E co = .bool b) (d : b = true → A = r → CW P n x Q E W) (c : b = false → B = r → CW P n y Q E W) : CW P n (.cond co x y) Q E W :=
 MF a (fun e => d e (RL e hm)) (fun e => c e (RP e hm))
theorem CJ {c ρ : Type} {m : Option c} {k : c → Option ρ} {r : ρ} {x : Code} {K : (Nat → Value) → World → Prop} (hm : m.bind k = some r) (I : c → (Nat → Value) → World → Prop) (h1 : ∀ s, m = some s → CW P n x (rY (I s) Q) E W) (d : ∀ s E W, I s E W → k s = some r → K E W) : CW P n x (rY K Q) E W :=
 let ⟨s, a, b⟩ := bind_some hm
 NW (I s) (h1 s a) (fun E W h => d s E W h b)
theorem NX {d ρ c : Type} {m : Option (c ⊕ d)} {k : c ⊕ d → Option ρ} {r : ρ} {x : Code} {K : (Nat → Value) → World → Prop} (hm : m.bind k = some r) (I : d → (Nat → Value) → World → Prop) (h1 : ∀ s, m = some s → k s = some r → CW P n x (rY (fun E W => ∃ t, s = .inr t ∧ I t E W) Q) E W) (g : ∀ s E W, I s E W → k (.inr s) = some r → K E W) : CW P n x (rY K Q) E W :=
 let ⟨s, a, b⟩ := bind_some hm
 NW (fun E W => ∃ t, s = .inr t ∧ I t E W) (h1 s a b) (fun E W ⟨t, e, h⟩ => g t E W h (by subst e; exact b))
theorem LJ {c ρ : Type} {m : Option c} {k : c → Option ρ} {r : ρ} {ops : Array Oper} {rest : List Oper} (hm : m.bind k = some r) (I : c → (Nat → Value) → World → Prop) (j : Nat) (d : ∀ s E W, I s E W → k s = some r → LW P n ops Q (rest.drop j) E W) (h1 : ∀ s, m = some s → (∀ E W, I s E W → LW P n ops Q (rest.drop j) E W) → LW P n ops Q rest E W) : LW P n ops Q rest E W :=
 let ⟨s, a, b⟩ := bind_some hm
 h1 s a (fun E W h => d s E W h b)
theorem PJ {c ρ : Type} {m : Option c} {k : c → Option ρ} {r : ρ} {ops : Array Oper} {S : Array Bool → World → Prop} {fuel : Nat} {listed : Array Bool} (hm : m.bind k = some r) (I : c → (Nat → Value) → World → Prop) (g : Array Bool) (d : Nat) (i : ∀ s E W, I s E W → k s = some r → PX P n ops Q S d g E W) (h1 : ∀ s, m = some s → (∀ E W, I s E W → PX P n ops Q S d g E W) → PX P n ops Q S fuel listed E W) : PX P n ops Q S fuel listed E W :=
 let ⟨s, a, b⟩ := bind_some hm
 h1 s a (fun E W h => i s E W h b)
theorem cF (n : Nat) {f : FuncId} {fn : Func} {c : Code} {args : List Value} {w : World} {R : Ending → World → Prop} (a : P.funcs[f]? = some fn) (b : fn.body = some c) (h : CW P n c (yU P fn R) (Cc args) w) (g : fn.ntmps = n := by exact rfl) (d : args.length ≤ n := by exact nb) : Calls P f args.toArray w R := yu a b g d h
end
section
variable {dd : Bool} {P : Program} {fn : Func} {E : Nat → Value} {W w : World} {μ : lZ} {L : List (Nat × Obj)}
theorem rP {t : Tmp} {v : Value} (a : ST dd mR w W μ L) (b : fn.results = #[.tmp t] := by exact rfl) (c : E t = v := by exact rfl) : yU P fn (fun e W' => e = .returned v ∧ Ex dd w W') .ret E W := na b c ⟨rfl, a.ex⟩
end
theorem ST.Gt {dd : Bool} {F : Nat → Prop} {w W : World} {μ : lZ} {x : Nat × Obj} {L : List (Nat × Obj)} (h : ST dd F w W μ (x :: L)) : ST dd F w W μ ([x] ++ L) := h
theorem ST.RM {dd : Bool} {F : Nat → Prop} {w W : World} {μ : lZ} {L : List (Nat × Obj)} (h : ST dd F w W μ L) : ST dd F w W μ ([] ++ L) := h
theorem aL {E : Nat → Value} {ax : Array Operand} {l : List Value} (h : ax.toList.map (lC E) = l) : ax.map (lC E) ++ (#[] : Array Value) = l.toArray := by subst h; apply Array.ext'; simp
section
variable {dd : Bool}
variable {P : Program} {E : Nat → Value} {W : World} {d : Option Nat} {ty : TypeId} {pos : String} {af : Array Edge} {g : Option (Nat × Bool)}
 {F : Nat → Prop} {w : World} {μ : lZ} {L : List (Nat × Obj)}
variable {f : FuncId} {fv : Operand} {ax : Array Operand} {ats : Array TypeId} {args : List Value} {v : Value} {K : Value → World → Prop}
theorem Eg (a : ST dd F w W μ L) (he : ∀ args w, (callFunc f args).run P w = .ok (.enter f args) w) (b : lV dd P f args W v) (h : ∀ W', ST dd F w W' μ L → K v W') (c : lC E fv = .func (.func f) #[] #[] := by exact rfl) (ha : ax.toList.map (lC E) = args := by exact rfl) : oB P E ⟨d, .call ⟨.value fv, ax, ats⟩, ty, pos, af, g⟩ W K := Lr a c he (aL ha) b h
theorem tW {α : Type} {e : TypeId} {enc : α → List Value} {k : Nat} {l : List α} {Y : List (Nat × Obj)} (a : ST dd F w W μ Y) (he : ∀ args w, (callFunc f args).run P w = .ok (.enter f args) w) (b : nR dd P f args W e enc k l) (h : ∀ W' v μ' R, ST dd F w W' μ' (R ++ Y) → lP μ μ' → Lo F w μ μ' → lR e enc k v l R → K v W') (c : lC E fv = .func (.func f) #[] #[] := by exact rfl) (ha : ax.toList.map (lC E) = args := by exact rfl) : oB P E ⟨d, .call ⟨.value fv, ax, ats⟩, ty, pos, af, g⟩ W K := GQ _ a c he (aL ha) b h
theorem Hf {K' : Value → List (Nat × Obj) → World → Prop} {L0 L2 : List (Nat × Obj)} (i : ST dd F w W μ L) (j : L.Perm (L0 ++ L2)) (he : ∀ args w, (callFunc f args).run P w = .ok (.enter f args) w) (k : EX L0 W → (L0.map (·.1)).Nodup → lP μ (vv W L0) → (∀ b o, (b, o) ∈ L2 → vv W L0 b = some o) → nl dd P f args W L0 K') (h : ∀ W' v μ' L1, ST dd F w W' μ' (L1 ++ L2) → lP μ μ' → Lo F w μ μ' → (∀ b, W.heap.size ≤ b → ∀ o, vv W' L1 b = some o → μ' b = some o) → K' v L1 W' → K v W') (l : lC E fv = .func (.func f) #[] #[] := by exact rfl) (ha : ax.toList.map (lC E) = args := by exact rfl) : oB P E ⟨d, .call ⟨.value fv, ax, ats⟩, ty, pos, af, g⟩ W K :=
 Qj L0 L2 i j l he (aL ha) (fun a b c d => by have := k a b c d; simpa using this) h
theorem IA {K' : Value → List (Nat × Obj) → lZ → Prop} {L0 L2 : List (Nat × Obj)} (i : ST dd F w W μ L) (j : L.Perm (L0 ++ L2)) (he : ∀ args w, (callFunc f args).run P w = .ok (.enter f args) w) (k : EX L0 W → (L0.map (·.1)).Nodup → lP μ (vv W L0) → (∀ b o, (b, o) ∈ L2 → vv W L0 b = some o) → nm dd P f args W μ L0 K') (h : ∀ W' v μ' L1, ST dd F w W' μ' (L1 ++ L2) → lP μ μ' → Lo F w μ μ' → K' v L1 μ' → K v W') (l : lC E fv = .func (.func f) #[] #[] := by exact rfl) (ha : ax.toList.map (lC E) = args := by exact rfl) : oB P E ⟨d, .call ⟨.value fv, ax, ats⟩, ty, pos, af, g⟩ W K :=
 Kv L0 L2 i j l he (aL ha) (fun a b c d => by have := k a b c d; simpa using this) h
end
section
variable {E : Nat → Value} {x1 x2 x3 x4 x5 x6 x7 x8 : Operand} {v1 v2 v3 v4 v5 v6 v7 v8 : Value}
theorem Um (h1 : lC E x1 = v1) : [x1].map (lC E) = [v1] := by rw [← h1]; rfl
theorem Ua (h1 : lC E x1 = v1) (a : lC E x2 = v2) : [x1, x2].map (lC E) = [v1, v2] := by rw [← h1, ← a]; rfl
theorem Uh (h1 : lC E x1 = v1) (a : lC E x2 = v2) (b : lC E x3 = v3) : [x1, x2, x3].map (lC E) = [v1, v2, v3] := by rw [← h1, ← a, ← b]; rfl
end
def Uj (R : List (Nat × Obj)) (k : Nat) (p : Value) (i a : Nat) : Prop := ∃ g o, R = [(g, o)] ∧ p = .pointer (some ⟨g, i * k + a, none⟩)
theorem BB.f {R : List (Nat × Obj)} {k : Nat} {p : Value} {i : Nat} (h : BB R k p i) : Uj R k p i 0 := h
section
variable {P : Program} {E : Nat → Value} {W : World} {d : Option Nat} {ty : TypeId} {pos : String} {af : Array Edge} {g : Option (Nat × Bool)}
 {dd : Bool} {F : Nat → Prop} {w : World} {μ : lZ} {L : List (Nat × Obj)} {α : Type} {e' : TypeId} {enc : α → List Value} {k : Nat} {v : Value} {l : List α} {R : List (Nat × Obj)}
theorem lR.put (h : lR e' enc k v l R) (hk : ∀ x, (enc x).length = k) {p : Value} {i : Nat} (hp : BB R k p i) {x0 : α} (s : l[i]? = some x0) (x1 : α) :
  ∃ g a, R = [(g, .cells a e' (0, 0))] ∧ p = .pointer (some ⟨g, i * k, none⟩) ∧ i * k + k ≤ a.size ∧ (∀ j y, (enc x0)[j]? = some y → a[i * k + j]? = some y) ∧
   lR e' enc k v (l.set i x1) [(g, .cells (a.toList.take (i * k) ++ enc x1 ++ a.toList.drop (i * k + k)).toArray e' (0, 0))] := by
 have n : i < l.length := (bG.1 s).1
 obtain ⟨q, a, cap, rfl, rfl, r, w, d, z, rfl, A⟩ := BE h hk hp s
 have hle : i * k + k ≤ cap * k := by
  have : (i + 1) * k ≤ cap * k := cP _ (by omega)
  rwa [cO, kW] at this
 have b : i * k + k ≤ l.length * k := by
  have : (i + 1) * k ≤ l.length * k := cP _ (by omega)
  rwa [cO, kW] at this
 have hlen : l.length * k ≤ cap * k := cP _ r
 refine ⟨q, a, rfl, rfl, by rw [d]; exact hle, A, .inr ⟨q, cap, _, by simp, rfl, by simpa using r, w, ?_, ?_⟩⟩
 ·show ((a.toList.take (i * k) ++ (enc x1) ++ a.toList.drop (i * k + k)).toArray).size = _
  have c : a.toList.length = cap * k := by simpa using d
  rw [dU, aD, aD, dK, jb, hk, c, dQ (by omega)]; omega
 ·rw [jm, F7 hk l i x1 n, ← z]
  have t : (a.toList.take (l.length * k)).take (i * k) = a.toList.take (i * k) := by rw [iP]; congr 1; omega
  have u : (a.toList.take (l.length * k)).drop (i * k + k) = (a.toList.drop (i * k + k)).take (l.length * k - (i * k + k)) := by rw [jB]
  rw [t, u]
  show List.take (l.length * k) (a.toList.take (i * k) ++ enc x1 ++ a.toList.drop (i * k + k)) = _
  have c : a.toList.length = cap * k := by simpa using d
  have o : (a.toList.take (i * k) ++ enc x1).length = i * k + k := by rw [aD, dK, hk, c, dQ (by omega)]
  rw [gH, dN (by rw [o]; exact b), o]
end
theorem oc {v : Value} (h : v.cells.toList.all Value.oneCell' = true := by exact rfl) : ∀ u ∈ v.cells.toList, u.oneCell' = true := kE.1 h
theorem dc {p : Prop} [Decidable p] (h : p := by decide) : p := h
theorem kr {p : Prop} (h : p := by kernel_rfl) : p := h
theorem br {α : Sort _} {a b : α} (h : a = b := by rfl) : a = b := h
abbrev LO := List (Nat × Obj)
abbrev Ob (c : Array Value) (t : TypeId) : Obj := .cells c t (0, 0)
abbrev Ol (c : List Value) (t : TypeId) : Obj := .cells c.toArray t (0, 0)
theorem oH {P : Program} {t e : TypeId} {m k : Nat} {z : Value} {qs : Array (Nat × Value)} {cs : Array Value} (g : P.underlying t = some (.slice e)) (d : ∀ w, (sizeOf e).run P w = .ok k w) (j : ∀ w, (zeroValue e).run P w = .ok z w) (hm : m * k ≤ 16777216 := by decide) (c : qs.toList = (qs.toList.map (·.2)).zipIdx.map (fun p => (p.2, p.1)) := by exact rfl) (i : (qs.toList.map (·.2)).all (fun v => v.cells.size == k) = true := by exact rfl) (b : (qs.toList.map (·.2)).length = m := by exact rfl) (a : ((qs.toList.map (·.2)).flatMap (fun v => v.cells.toList)).toArray = cs := by exact rfl) (W : World) :
  (Instr.buildSlice t m qs).run P W = .ok (.slice (some ⟨W.heap.size, 0, none⟩) m m) (W.alloc (.cells cs e (0, 0))) :=
 tY _ g d j hm c (fun v h => eq_of_beq (kE.1 i v h)) b a W
section
variable {dd : Bool} {P : Program} {fn : Func} {E : Nat → Value} {W w : World} {μ : lZ} {L L0 : List (Nat × Obj)}
theorem rQ {α : Type} {f : α → Value} {a r : α} {t : Tmp} (hm : some a = some r) (b : ST dd mR w W μ L) (c : fn.results = #[.tmp t] := by exact rfl) (d : E t = f a := by exact rfl) : yU P fn (fun e W' => e = .returned (f r) ∧ Ex dd w W') .ret E W := by
 obtain rfl := sj hm; exact na c d ⟨rfl, b.ex⟩
theorem cG (n : Nat) {f : FuncId} {c : Code} {args : List Value} {v : Value} (a : P.funcs[f]? = some fn) (b : fn.body = some c) (h : ST dd mR w w (hp w) [] → CW P n c (yU P fn (fun e i => e = .returned v ∧ Ex dd w i)) (Cc args) w) (g : fn.ntmps = n := by exact rfl) (d : args.length ≤ n := by exact nb) : lV dd P f args w v := yu a b g d (h (ST.start w))
theorem zh {K : Value → List (Nat × Obj) → World → Prop} (n : Nat) {f : FuncId} {c : Code} {args : List Value} (a : P.funcs[f]? = some fn) (d : fn.body = some c) (h : ST dd mR w w (hp w) [] → CW P n c (yU P fn (fun e b => ∃ v L1, e = .returned v ∧ uY dd [] L1 w b ∧ K v L1 b)) (Cc args) w) (i : fn.ntmps = n := by exact rfl) (g : args.length ≤ n := by exact nb) : nl dd P f args w [] K := yu a d i g (h (ST.start w))
theorem AN {K : Value → List (Nat × Obj) → World → Prop} (d : oT μ L0 w) (n : Nat) {f : FuncId} {c : Code} {args : List Value} (a : P.funcs[f]? = some fn) (g : fn.body = some c) (h : ST dd (keys L0) w w μ L0 → CW P n c (yU P fn (fun e b => ∃ v L1, e = .returned v ∧ uY dd L0 L1 w b ∧ K v L1 b)) (Cc args) w) (j : fn.ntmps = n := by exact rfl) (i : args.length ≤ n := by exact nb) : nl dd P f args w L0 K := yu a g j i (h (ST.N7 d))
theorem uW {K : Value → List (Nat × Obj) → lZ → Prop} (d : oT μ L0 w) (n : Nat) {f : FuncId} {c : Code} {args : List Value} (a : P.funcs[f]? = some fn) (g : fn.body = some c) (h : ST dd (keys L0) w w μ L0 → CW P n c (yU P fn (fun e b => ∃ v L1 μ1, e = .returned v ∧ uY dd L0 L1 w b ∧ lP μ μ1 ∧ Lo (keys L0) w μ μ1 ∧ lP μ1 (vv b L1) ∧ K v L1 μ1)) (Cc args) w) (j : fn.ntmps = n := by exact rfl) (i : args.length ≤ n := by exact nb) : nm dd P f args w μ L0 K := yu a g j i (h (ST.N7 d))
end
section
variable {dd : Bool}
variable {P : Program} {E : Nat → Value} {W : World} {d : Option Nat} {ty : TypeId} {pos : String} {af : Array Edge} {g : Option (Nat × Bool)}
 {F : Nat → Prop} {w : World} {μ : lZ} {L : List (Nat × Obj)}
variable {f : FuncId} {fv : Operand} {ax : Array Operand} {ats : Array TypeId} {args : List Value} {v : Value} {K : Value → World → Prop}
theorem eM {K' : Value → List (Nat × Obj) → World → Prop} {L0 L2 : List (Nat × Obj)} (i : ST dd F w W μ L) (j : L.Perm (L0 ++ L2)) (he : ∀ args w, (callFunc f args).run P w = .ok (.enter f args) w) (k : oT (vv W L0) L0 W → lP μ (vv W L0) → nl dd P f args W L0 K') (h : ∀ W' v μ' L1, ST dd F w W' μ' (L1 ++ L2) → lP μ μ' → Lo F w μ μ' → (∀ b, W.heap.size ≤ b → ∀ o, vv W' L1 b = some o → μ' b = some o) → K' v L1 W' → K v W') (l : lC E fv = .func (.func f) #[] #[] := by exact rfl) (ha : ax.toList.map (lC E) = args := by exact rfl) : oB P E ⟨d, .call ⟨.value fv, ax, ats⟩, ty, pos, af, g⟩ W K :=
 Hf i j he (fun a b c _ => k ⟨a, b, lP.refl _⟩ c) h l ha
theorem eD {K' : Value → List (Nat × Obj) → lZ → Prop} {L0 L2 : List (Nat × Obj)} (i : ST dd F w W μ L) (j : L.Perm (L0 ++ L2)) (he : ∀ args w, (callFunc f args).run P w = .ok (.enter f args) w) (k : oT μ L0 W → nm dd P f args W μ L0 K') (h : ∀ W' v μ' L1, ST dd F w W' μ' (L1 ++ L2) → lP μ μ' → Lo F w μ μ' → K' v L1 μ' → K v W') (l : lC E fv = .func (.func f) #[] #[] := by exact rfl) (ha : ax.toList.map (lC E) = args := by exact rfl) : oB P E ⟨d, .call ⟨.value fv, ax, ats⟩, ty, pos, af, g⟩ W K :=
 IA i j he (fun a b c _ => k ⟨a, b, c⟩) h l ha
end
def NK (op : BinOp) : Value → Value → Option Value
 | .int k a, .int k' b => if k = k' then I6 k op a b else none
 | _, _ => none
def RN (i : Nat) : Value → Option Value
 | .tuple vs => vs[i]?
 | _ => none
def Ja : Value → Bool
 | .pointer (some ⟨_, _, none⟩) => true
 | _ => false
def RB (o : Nat) : Value → Value
 | .pointer (some ⟨b, k, none⟩) => .pointer (some ⟨b, k + o, none⟩)
 | v => v
theorem Iq {v : Value} (h : Ja v = true) : ∃ b k, v = .pointer (some ⟨b, k, none⟩) := by
 unfold Ja at h; split at h
 ·exact ⟨_, _, rfl⟩
 ·cases h
section
variable {P : Program} {n : Nat} {Q : sm} {E : Nat → Value} {W : World} {ops : Array Oper} {rest : List Oper}
 {d j t : Nat} {want b : Bool} {v : Value} {ins : Go.Op} {ty : TypeId} {pos : String} {af : Array Edge} {A : Value → Prop} {x y : Operand}
theorem Wm (h : LW P n ops Q rest (pP E d (lC E x)) W) (a : d < n := by decide) : LW P n ops Q (⟨some d, .move x, ty, pos, af, none⟩ :: rest) E W := V (lz rfl) h a
theorem Wa (h : LW P n ops Q rest (pP E d (lC E x)) W) (a : d < n := by decide) : LW P n ops Q (⟨some d, .assign x, ty, pos, af, none⟩ :: rest) E W := V (ny rfl) h a
theorem Wh (b : lC E x = v) (h : LW P n ops Q rest (pP E d v) W) (a : d < n := by decide) : LW P n ops Q (⟨some d, .move x, ty, pos, af, none⟩ :: rest) E W := V (lz b) h a
theorem Wg (b : lC E x = v) (h : LW P n ops Q rest (pP E d v) W) (a : d < n := by decide) : LW P n ops Q (⟨some d, .assign x, ty, pos, af, none⟩ :: rest) E W := V (ny b) h a
theorem Wx {i : Nat} (a : RN i (lC E x) = some v) (h : LW P n ops Q rest (pP E d v) W) (b : d < n := by decide) : LW P n ops Q (⟨some d, .extract x i, ty, pos, af, none⟩ :: rest) E W := by
 unfold RN at a; split at a
 ·rename_i vs e; exact V (og e a) h b
 ·cases a
theorem Wi {op : BinOp} {o l : TypeId} (c : NK op (lC E x) (lC E y) = some v) (h : LW P n ops Q rest (pP E d v) W) (j : d < n := by decide) : LW P n ops Q (⟨some d, .binOp op o x y l, ty, pos, af, none⟩ :: rest) E W := by
 unfold NK at c; split at c
 ·rename_i k a k' b g i
  split at c
  ·rename_i e; subst e; exact V (mz g i c) h j
  ·cases c
 ·cases c
theorem Wf {t : TypeId} {f off : Nat} (a : ni P t f off) (h : LW P n ops Q rest (pP E d (RB off (lC E x))) W) (hp : Ja (lC E x) = true := by exact rfl) (c : d < n := by decide) : LW P n ops Q (⟨some d, .fieldAddr t x f, ty, pos, af, none⟩ :: rest) E W := by
 obtain ⟨b, k, e⟩ := Iq hp
 refine V (lA a e) ?_ c
 rw [e] at h; exact h
theorem Wn (h : LW P n ops Q rest (pP E d (lC E x)) W) (hp : Ja (lC E x) = true := by exact rfl) (a : d < n := by decide) : LW P n ops Q (⟨some d, .nilCheck x, ty, pos, af, none⟩ :: rest) E W := by
 obtain ⟨b, k, e⟩ := Iq hp
 refine V (nA e) ?_ a
 rw [e] at h; exact h
theorem un (h : b = !want) (k : LW P n ops Q rest (pP E d undef) W) (c : (ops[j]?).bind (·.dst) = some t := by exact rfl) (a : E t = .bool b := by exact rfl) (i : t < n := by decide) (g : d < n := by decide) :
  LW P n ops Q (⟨some d, ins, ty, pos, af, some (j, want)⟩ :: rest) E W := Vn c (by rw [a, h]) k i g
theorem ug (h : b = want) (i : nx P E ⟨some d, ins, ty, pos, af, some (j, want)⟩ W v W) (k : LW P n ops Q rest (pP E d v) W) (c : (ops[j]?).bind (·.dst) = some t := by exact rfl) (a : E t = .bool b := by exact rfl) (l : t < n := by decide) (g : d < n := by decide) :
  LW P n ops Q (⟨some d, ins, ty, pos, af, some (j, want)⟩ :: rest) E W := Vg c (by rw [a, h]) i k l g
theorem vC (h : b = want) (k : oB P E ⟨some d, ins, ty, pos, af, some (j, want)⟩ W fun v W' => LW P n ops Q rest (pP E d v) W') (c : (ops[j]?).bind (·.dst) = some t := by exact rfl) (a : E t = .bool b := by exact rfl) (i : t < n := by decide) (g : d < n := by decide) :
  LW P n ops Q (⟨some d, ins, ty, pos, af, some (j, want)⟩ :: rest) E W := N4 c (by rw [a, h]) k i g
section
variable {dd : Bool} {F : Nat → Prop} {w : World} {μ : lZ} {L : List (Nat × Obj)} {T : TypeId} {a off : Nat} {cs : Array Value} {fr : Nat × Nat}
theorem VA {t : TypeId} (b : ST dd F w W μ L) (g : (a, Obj.cells cs T fr) ∈ L) (ys : List Value) (c : ∀ w, (isAgg t).run P w = .ok true w) (i : ∀ w, (sizeOf t).run P w = .ok ys.length w) (h : LW P n ops Q rest (pP E d (.agg ys.toArray)) W) (k : lC E x = .pointer (some ⟨a, off, none⟩) := by exact rfl) (l : (cs.toList.drop off).take ys.length = ys := by exact rfl) (j : d < n := by decide) : LW P n ops Q (⟨some d, .load t x, ty, pos, af, none⟩ :: rest) E W := V (lq k (lB b.has g ys l c i)) h j
theorem VB {t : TypeId} (b : ST dd F w W μ L) (g : (a, Obj.cells cs T fr) ∈ L) (j : lC E x = .pointer (some ⟨a, off, none⟩)) (k : cs[off]? = some v) (c : ∀ w, (isAgg t).run P w = .ok false w) (h : LW P n ops Q rest (pP E d v) W) (i : d < n := by decide) : LW P n ops Q (⟨some d, .load t x, ty, pos, af, none⟩ :: rest) E W := V (lq j (lK b.has g k c)) h i
end
section
variable {K : (Nat → Value) → World → Prop} {Q' : sm} {c : Code} {id id2 : Nat} {l : List Oper} {z : Code}
theorem sg (h : LW P n l.toArray (rY (fun E W => CW P n c Q E W) Q) l E W) : CW P n (.seq (.region id l.toArray false) c) Q E W := lH (lG h)
theorem ln (h : K E W) : LW P n ops (rY K Q) [] E W := me (lD h)
theorem lr (h : LW P n l.toArray (rY (fun E W => CW P n c Q E W) Q) l E W) : LW P n ops (rY (fun E W => CW P n (.seq (.region id l.toArray false) c) Q E W) Q') [] E W := me (lD (lH (lG h)))
theorem lS (h : LW P n l.toArray (rY (fun E W => CW P n c (rY (fun E W => CW P n z Q E W) Q) E W) (rY (fun E W => CW P n z Q E W) Q)) l E W) : LW P n ops (rY (fun E W => CW P n (.seq (.seq (.region id l.toArray false) c) z) Q E W) Q') [] E W := me (lD (lH (lH (lG h))))
theorem bg (h : LW P n l.toArray (rY (fun E W => CW P n c (xC id2 Q) E W) (xC id2 Q)) l E W) : CW P n (.block id2 (.seq (.region id l.toArray false) c)) Q E W := nz (lH (lG h))
theorem kg (h : LW P n l.toArray (rY (fun E W => CW P n c Q E W) Q) l E W) : CW P n .skip (rY (fun E W => CW P n (.seq (.region id l.toArray false) c) Q E W) Q') E W := mX (lD (lH (lG h)))
theorem kS (h : LW P n l.toArray (rY (fun E W => CW P n c (rY (fun E W => CW P n z Q E W) Q) E W) (rY (fun E W => CW P n z Q E W) Q)) l E W) : CW P n .skip (rY (fun E W => CW P n (.seq (.seq (.region id l.toArray false) c) z) Q E W) Q') E W := mX (lD (lH (lH (lG h))))
theorem lt (h : Q .ret E W) : LW P n ops (rY (fun E W => CW P n .ret Q E W) Q') [] E W := me (lD (mi h))
theorem kn (h : K E W) : CW P n .skip (rY K Q) E W := mX (lD h)
end
end
end Go.Proofs.YtklbhegeiijbjaaGreat
namespace Go.Proofs.YtklbhegeiijbjaaGreat
open Go.IntKind renaming wrap → wi0
open Go.Sort Go.Proofs Go.Shelf
theorem Gz {g b : Nat} {o : Obj} : keys [(g, o)] b ↔ b = g := by
 constructor
 ·rintro ⟨a, h⟩
  simp at h
  exact h.1
 ·rintro rfl; exact ⟨o, by simp⟩
theorem CC (w : World) (g m : Nat) (f : Array Value → Array Value) (os : Array Obj) (b : Nat) (c : b < w.heap.size) :
  (Go.Sort.grow (mapBlock (Go.Sort.ahead w m) g f) os).heap[b]? = if g = b then w.heap[b]?.map (onCells f) else w.heap[b]? := by
 have a : b < (mapBlock (Go.Sort.ahead w m) g f).heap.size := by simp only [mapBlock, Go.Sort.ahead, Array.size_modify]; exact c
 rw [heap_grow_old _ _ a]
 simp only [mapBlock, Go.Sort.ahead, dF]
theorem KD {w : World} {g m : Nat} {f : Array Value → Array Value} {os : Array Obj} {cs : Array Value} {T : TypeId} {fr : Nat × Nat} (c : w.heap[g]? = some (.cells cs T fr)) :
  uY true [(g, .cells cs T fr)] [(g, .cells (f cs) T fr)] w (Go.Sort.grow (mapBlock (Go.Sort.ahead w m) g f) os) := by
 have a : g < w.heap.size := (dI.1 c).1
 refine ⟨⟨rfl, rfl, rfl, ?_, ?_, fun b d i => ?_⟩, fun b o h => ?_, by simp⟩
 ·refine uJ.of ?_
  show w.drawn ≤ w.drawn + m
  omega
 ·show w.heap.size ≤ (w.heap.modify g (onCells f) ++ os).size
  simp
 ·rw [CC _ _ _ _ _ _ d, aX fun h => i (Gz.2 h.symm)]
 ·simp only [aM, cH, eY, Prod.mk.injEq] at h
  obtain ⟨rfl, rfl⟩ := h
  refine ⟨?_, .inr (Gz.2 rfl)⟩
  rw [CC _ _ _ _ _ _ a, aZ rfl, c]
  rfl
theorem L8 {w W : World} (h : Ex true w W) : ∃ q os, W = Go.Sort.grow (w.drewN q) os := by
 refine ⟨W.drawn - w.drawn, W.heap.extract w.heap.size W.heap.size, ?_⟩
 have d : W.heap = w.heap ++ W.heap.extract w.heap.size W.heap.size := by
  apply Array.ext_getElem?
  intro i
  rw [Array.getElem?_append]
  split
  ·rename_i g; exact h.nO i g
  ·rename_i g
   rw [Array.getElem?_extract]
   have k := h.size
   split
   ·rw [show w.heap.size + (i - w.heap.size) = i by omega]
   ·exact Array.getElem?_eq_none (by omega)
 obtain ⟨h1, l, n, o, r⟩ := W
 have a := h.os; have b := h.tape; have c := h.output; have j := h.drawn rfl
 simp only at a b c j d
 unfold Go.Sort.grow World.drewN
 simp only [World.mk.injEq]
 exact ⟨d, b, by omega, a, c⟩
theorem Lj {α : Type} [Inhabited α] {enc : α → List Value} {k : Nat} (hk : ∀ x, (enc x).length = k) (l : List α) (j : Nat) (a : j < l.length * k) :
  (l.map enc).flatten[j]? = some ((flatK enc k l.toArray)[j]!) := by
 have d : 0 < k := by
  cases k with
  | zero => simp at a
  | succ n => omega
 have h1 : j / k < l.length := (iY d).2 a
 rw [get_flatK _ _ _ _ (by simpa using a)]
 have g : l.toArray[j / k]! = l[j / k] := by
  rw [getElem!_pos l.toArray (j / k) (by simpa using h1)]; simp
 rw [g]
 have b : j % k < (enc l[j / k]).length := by rw [hk]; exact Nat.mod_lt _ d
 have c := wK hk l (j / k) l[j / k] (cW h1) (j % k) ((enc l[j / k])[j % k]) (cW b)
 rw [Nat.div_add_mod' j k] at c
 rw [c, getElem!_pos (enc l[j / k]) (j % k) b]
theorem IT {α : Type} [Inhabited α] {enc : α → List Value} {k : Nat} (hk : ∀ x, (enc x).length = k) {w : World} {g : Nat} {cs : Array Value} {T : TypeId} (b : w.heap[g]? = some (.cells cs T (0, 0))) (l : List α)
  (d : cs.toList.take (l.length * k) = (l.map enc).flatten) : HoldsK enc k w g 0 l.toArray := by
 intro j c
 have a : j < l.length * k := by simpa using c
 have h1 := Lj hk l j a
 rw [← d, gK, aZ a] at h1
 refine ⟨?_, ?_⟩
 ·simp only [World.cell?, b, gp]
  simpa using h1
 ·simp [World.frozen?, b]
theorem KL {α : Type} [Inhabited α] {enc : α → List Value} {k : Nat} (hk : ∀ x, (enc x).length = k) {cs : Array Value} (l : List α) (b : l.length * k ≤ cs.size) :
  (putCells id 0 (flatK enc k l.toArray) cs).toList.take (l.length * k) = (l.map enc).flatten := by
 apply fN
 intro j
 rw [gK]
 split
 ·rename_i a
  rw [Lj hk l j a]
  simp only [putCells, dR, Array.getElem?_mapIdx, size_flatK, dU]
  rw [Array.getElem?_eq_getElem (by omega)]
  simp [a]
 ·rename_i a
  rw [gU (by rw [rp hk]; omega)]
theorem I5 (enc : Value → Value) (o : Nat) (d c : Array Value) : (putCells enc o d c).size = c.size := by simp [putCells]
section
variable {α : Type} {P : Program} {ρ : Ren}
theorem R4 {l : List α} {cf : α × α → Option Int} (h : EK cf l) : SWO (ltOf fun (x y : {x // x ∈ l}) => (cf (x.1, y.1)).getD 0) ∧
  (∀ x y : {x // x ∈ l}, ltOf (fun (x y : {x // x ∈ l}) => (cf (x.1, y.1)).getD 0) x y = vg cf x.1 y.1) := by
 have e : ∀ x y : {x // x ∈ l}, ltOf (fun (x y : {x // x ∈ l}) => (cf (x.1, y.1)).getD 0) x y = vg cf x.1 y.1 := fun x y => by
  obtain ⟨c, g⟩ := h.is x.1 x.2 y.1 y.2
  simp [ltOf, vg, g]
 refine ⟨⟨fun x => ?_, fun x y z => ?_, fun x y z => ?_⟩, e⟩
 ·rw [e]; exact h.irrefl _ x.2
 ·rw [e, e, e]; exact h.trans _ x.2 _ y.2 _ z.2
 ·rw [e, e, e]
  intro h1 b
  cases a : vg cf x.1 z.1 with
  | false => rfl
  | true =>
   cases d : vg cf y.1 x.1 with
   | true =>
    have := h.trans _ y.2 _ x.2 _ z.2 d a
    rw [b] at this; cases this
   | false =>
    have := h.total _ x.2 _ y.2 h1 d
    rw [this, b] at a; cases a
theorem F5 (L : SlLaysF0.n6 P ρ) (k : Nat) (aE : ∀ w, (isAgg (ρ.t 24)).run P w = .ok true w) (zE : ∀ w, (Go.sizeOf (ρ.t 24)).run P w = .ok k w) {e : TypeId} (enc : α → List Value) (hk : ∀ x, (enc x).length = k) (h1 : ∀ x, ∀ u ∈ enc x, u.oneCell' = true) {v fv : Value} {l r : List α} {R : List (Nat × Obj)} {cf : α × α → Option Int} {w : World} {μ0 : lZ} (hH : EX (R ++ []) w) (A : lP μ0 (vv w (R ++ []))) (U : lR e enc k v l R) (hc : RR P fv μ0 (fun (x : α × α) => [(.agg (enc x.1).toArray), (.agg (enc x.2).toArray)]) (fun (r : Int) => (.int .i64 r)) cf) (hm : yL cf l = some r) :
  nl true P (ρ.f 6) [v, fv] w (R ++ []) (fun u L1 _ => ∃ (S : List (Nat × Obj)), u = (.tuple #[]) ∧ L1 = (S ++ []) ∧ lR e enc k v r S) := by
 obtain ⟨ok, rfl⟩ := Hz hm
 rw [bV] at hH A ⊢
 rcases fH l.length with h0 | i
 ·have hl : l = [] := aV h0
  subst hl
  have W : uF cf ([] : List α) = [] := by simp [uF]
  rw [W]
  obtain ⟨p, c, rfl⟩ : ∃ p c, v = .slice p 0 c := by
   rcases U with ⟨rfl, _, _⟩ | ⟨g, cap, j, rfl, _⟩
   ·exact ⟨_, _, rfl⟩
   ·exact ⟨_, _, rfl⟩
  refine dJ (AnyF.slices_SortFunc_none L p c fv w) fun x w' ⟨hx, hw⟩ => ?_
  subst hx hw
  refine ⟨_, R, rfl, ⟨⟨rfl, rfl, rfl, uJ.of (aT _), aT _, fun _ _ _ => rfl⟩, fun b o h => ⟨hH b o h, .inr ⟨o, h⟩⟩, ?_⟩, R, rfl, (bV R).symm, U⟩
  rcases U with ⟨_, _, rfl⟩ | ⟨g, cap, j, _, rfl, _⟩ <;> simp
 ·rcases U with ⟨_, rfl, _⟩ | ⟨g, cap, j, rfl, rfl, a6, a1, I, ab⟩
  ·simp at i
  have hg : w.heap[g]? = some (.cells j e (0, 0)) := hH g _ (by simp)
  have a7 : g < w.heap.size := (dI.1 hg).1
  haveI : Inhabited {x // x ∈ l} := ⟨⟨l[0], List.getElem_mem i⟩⟩
  obtain ⟨gg, caps, rfl, J, q⟩ := hc
  obtain ⟨hO, M⟩ := R4 ok
  have D : l.attach.toArray.size = l.length := by simp
  have a8 : l.attach.map (fun x => enc x.1) = l.map enc := by
   rw [show (fun x : {x // x ∈ l} => enc x.1) = enc ∘ Subtype.val from rfl, ← fB, List.attach_map_subtype_val]
  have Y : HoldsK (fun x : {x // x ∈ l} => enc x.1) k w g 0 l.attach.toArray := IT (fun x => hk x.1) hg l.attach (by rw [a8, List.length_attach, ab])
  have G : CmpLays P gg caps (fun x : {x // x ∈ l} => enc x.1) k (fun x y => (cf (x.1, y.1)).getD 0) g 0 l.attach.toArray.size w := by
   intro m os dk ae x y
   obtain ⟨c, F⟩ := ok.is x.1 x.2 y.1 y.2
   have T : lP μ0 (hp (sortWorldK (fun x : {x // x ∈ l} => enc x.1) k w g 0 m dk os)) := fun b o hb => by
    have z := A b o hb
    unfold vv at z
    split at z
    ·cases z
    ·rename_i hn
     have Z : b < w.heap.size := (dI.1 z).1
     show (Go.Sort.grow (mapBlock (Go.Sort.ahead w m) g _) os).heap[b]? = _
     rw [CC _ _ _ _ _ _ Z, aX fun h => hn (Gz.2 h.symm)]
     exact z
   have h3 := q (sortWorldK (fun x : {x // x ∈ l} => enc x.1) k w g 0 m dk os) (x.1, y.1) c T F
   have ea : ([Value.agg (enc x.1).toArray, Value.agg (enc y.1).toArray] ++ caps.toList).toArray = #[Value.agg (enc x.1).toArray, Value.agg (enc y.1).toArray] ++ caps := by
    apply Array.ext'; simp
   rw [← ea]
   exact dJ h3 fun u W' hu => ⟨by rw [hu.1]; show _ = Ending.returned (.int .i64 ((cf (x.1, y.1)).getD 0)); rw [F]; rfl, L8 hu.2⟩
  have hT : ∀ x y : {x // x ∈ l}, ltOf (fun (x y : {x // x ∈ l}) => (cf (x.1, y.1)).getD 0) x y = false → ltOf (fun (x y : {x // x ∈ l}) => (cf (x.1, y.1)).getD 0) y x = false → x = y := fun x y a b => by
   rw [M] at a b
   exact Subtype.ext (ok.total _ x.2 _ y.2 a b)
  have d := AnyQ.slices_SortFunc_total L k aE zE (fun x : {x // x ∈ l} => enc x.1) (fun x => hk x.1) (fun x => h1 x.1) (fun x y => (cf (x.1, y.1)).getD 0) hO gg caps g 0 cap l.attach.toArray w J G Y a7 (by rw [D]; exact ok.short) hT
  rw [D] at d
  refine dJ d fun u w' ⟨hu, n, os, hw⟩ => ?_
  subst hu
  generalize W : l.attach.toArray.toList.mergeSort (fun x y => !ltOf (fun (x y : {x // x ∈ l}) => (cf (x.1, y.1)).getD 0) y x) = s at hw
  have aa : s.map Subtype.val = uF cf l := by
   rw [← W, jE (s := fun x y => !vg cf y x) (fun a _ b _ => by rw [M])]
   simp [uF]
  have Q : s.length = l.length := by rw [← W, List.length_mergeSort]; simp
  have O : (uF cf l).length = l.length := by simp [uF, List.length_mergeSort]
  have E := KD (w := w) (m := n) (f := putCells id 0 (flatK (fun x : {x // x ∈ l} => enc x.1) k s.toArray)) (os := os) hg
  have ad : w' = Go.Sort.grow (mapBlock (Go.Sort.ahead w n) g (putCells id 0 (flatK (fun x : {x // x ∈ l} => enc x.1) k s.toArray))) os := hw
  rw [← ad] at E
  refine ⟨_, _, rfl, E, _, rfl, (bV _).symm, .inr ⟨g, cap, _, by rw [O], rfl, by omega, a1, by rw [I5, I], ?_⟩⟩
  rw [O, ← Q, KL (fun x => hk x.1) s (by rw [Q, I]; exact cP k a6), ← aa, fB]
  rfl
end
theorem ES (b : ByteArray) : b.toList = b.data.toList := by rw [gG]
theorem QU (l : List ByteArray) : (l.map DL).flatten = l.map Value.string := by
 induction l with
 | nil => rfl
 | cons x l ih => simp only [bF, bJ, ih]; rfl
theorem Oq (l : List ByteArray) : (vW l).map (fun b => b.data.toList) = (l.map (fun b => b.data.toList)).mergeSort (fun x y => decide (x ≤ y)) := by
 unfold vW
 refine jE fun a _ b _ => ?_
 unfold sa
 rw [bytesLess_eq, ES, ES]
 by_cases h : a.data.toList ≤ b.data.toList
 ·have c : ¬ b.data.toList < a.data.toList := List.not_lt.2 h
  simp [h, c]
 ·have c : b.data.toList < a.data.toList := by
   cases Decidable.em (b.data.toList < a.data.toList) with
   | inl d => exact d
   | inr d => exact absurd (List.not_lt.1 d) h
  simp [h, c]
end Go.Proofs.YtklbhegeiijbjaaGreat
namespace Go.Proofs.YtklbhegeiijbjaaGreat
open Go.IntKind renaming wrap → wi0
open Go.WideElems Go.WideShapes Go.Sort Go.Proofs Go.Shelf
theorem KH {β : Type} {vf : β → Value} {P : Program} {kt : TypeId} (z : P.underlying kt = some .string) {l : List (ByteArray × β)} {es : Array MapEntry} {clock : Nat} (h : vG Value.string vf l es clock) (w : (l.map (·.1)).Nodup) (y : ∀ p ∈ l, p.1.size ≤ maxLen) (u : l.length ≤ maxLen) {W : World} {b : Nat} (t : W.heap[b]? = some (.map es clock)) : ∃ D : DataW Unit, W.ownsMap P kt (fun _ => some (.lit (.bool true), [])) b es.size D ∧ (strKeys D).Perm (l.map (fun p => p.1.data.toList)) ∧ Maps.size D = l.length := by
 have c := h.keys
 have n : ∀ x ∈ es.toList, ∃ s : ByteArray, x.key = .string s ∧ s.size ≤ maxLen := fun x i => by
  have h1 : x.key ∈ es.toList.map (·.key) := bD.2 ⟨x, i, rfl⟩
  rw [c] at h1
  obtain ⟨s, g, j⟩ := bD.1 h1
  obtain ⟨p, q, r⟩ := bD.1 g
  exact ⟨s, j.symm, by rw [← r]; exact y p q⟩
 have d : ∀ x ∈ es.toList, ∃ s : ByteArray, x.key = .string s ∧ Go.WideElems.rd (H := Unit) P kt (fun _ => some (.lit (.bool true), [])) x = some (.string s.data.toList, .lit (.bool true)) := fun x i => by
  obtain ⟨s, h1, g⟩ := n x i
  refine ⟨s, h1, ?_⟩
  simp [Go.WideElems.rd, keyOf, z, mapKey, h1, g]
 refine ⟨_, ⟨es, clock, t, ⟨by rw [h.length]; exact u, ⟨h.lt, ?_, ?_⟩, fun x i => ?_⟩, aT _, rfl⟩, ?_, ?_⟩
 ·have := h.born
  rw [List.Nodup, gX]
  exact this.imp (fun {a b} h => by omega)
 ·rw [c]
  rw [List.Nodup, gX]
  exact w.imp (fun {a b} k e => k (by injection e))
 ·obtain ⟨s, _, g⟩ := d x i
  exact ⟨_, g⟩
 ·have h1 := (sorted_perm (es.toList.map (Go.WideElems.rg (H := Unit) P kt (fun _ => some (.lit (.bool true), []))))).map (fun p => strOf p.1)
  refine List.Perm.trans h1 ?_
  have e : (es.toList.map (Go.WideElems.rg (H := Unit) P kt (fun _ => some (.lit (.bool true), [])))).map (fun p => strOf p.1) = l.map (fun p => p.1.data.toList) := by
   have o : (es.toList.map (Go.WideElems.rg (H := Unit) P kt (fun _ => some (.lit (.bool true), [])))).map (fun p => strOf p.1) = (es.toList.map (·.key)).map (fun v => match v with | .string s => s.data.toList | _ => []) := by
    rw [fB, fB]
    refine iB fun x i => ?_
    obtain ⟨s, g, j⟩ := d x i
    simp [Go.WideElems.rg, j, g, strOf]
   rw [o, c, fB, fB]
   rfl
  rw [e]
 ·have h1 := (sorted_perm (es.toList.map (Go.WideElems.rg (H := Unit) P kt (fun _ => some (.lit (.bool true), []))))).length_eq
  show (List.foldr DataW.insert [] _).length = _
  rw [h1, cY, ← h.length]
  simp
theorem IZ {l : List ByteArray} {g : List (List UInt8)} (h : g.Perm (l.map fun b => b.data.toList)) : g.mergeSort (fun x y => decide (x ≤ y)) = (vW l).map (fun b => b.data.toList) := by
 rw [Oq]
 have le : ∀ a b c : List UInt8, decide (a ≤ b) = true → decide (b ≤ c) = true → decide (a ≤ c) = true := fun a b c h1 d => by
  simp only [bX] at *
  exact List.le_trans h1 d
 have tot : ∀ a b : List UInt8, (decide (a ≤ b) || decide (b ≤ a)) = true := fun a b => by
  simp only [gO, bX]
  exact List.le_total a b
 refine List.Perm.eq_of_pairwise (le := fun a b => decide (a ≤ b) = true) (fun a b _ _ h1 d => List.le_antisymm (by simpa using h1) (by simpa using d)) (iM le tot _) (iM le tot _) ?_
 exact (jr _ _).trans (h.trans (jr _ _).symm)
section
variable {P : Program} {ρk ρt ρm : Ren}
theorem KC (LK : SlLaysZ.n7 P ρk) (LT : SlLaysZ.n6 P ρt) (LM : SlLaysM.n6 P ρm) (h9 : ρt.f 9 = ρm.f 6) (hK : P.underlying (ρk.t 26) = some .string) (eg : ∀ args w, (callFunc (ρk.f 10) args).run P w = .ok (.enter (ρk.f 10) args) w) (es : ∀ args w, (callFunc (ρt.f 9) args).run P w = .ok (.enter (ρt.f 9) args) w) {β : Type} {vf : β → Value} {l : List (ByteArray × β)} {b : Nat} {mv : Value} {t : TypeId} {W : World} {r : List ByteArray} (u : W.heap[b]? = some (.cells #[mv] t (0, 0))) (hm : vH Value.string vf (hp W) mv l) (hk : GW l = some r) :
  nR false P (ρt.f 6) [.func (.func (ρk.f 10)) #[] #[.pointer (some ⟨b, 0, none⟩)]] W (ρt.t 26) DL 1 r := by
 unfold GW at hk
 split at hk
 case isFalse => cases hk
 rename_i hc
 obtain ⟨R, T, U⟩ := hc
 cases hk
 have i : b < W.heap.size := (dI.1 u).1
 have c : W.cell? ⟨b, 0, none⟩ = some mv := by simp [World.cell?, u]
 have q : AnyZ.SortsIn P ρt Fence.wide 4 :=
  ⟨fun L off cap d W hH hblk s => callsIn_wide.2 (by rw [h9]; exact AnyM.slices_Sort_string LM L off cap d W hH hblk s), fun p cap W => callsIn_wide.2 (by rw [h9]; exact AnyM.slices_Sort_string_none LM p cap W)⟩
 have G : SeqGives Fence.wide 2 P (ρk.f 10) #[.pointer (some ⟨b, 0, none⟩)] encStr (fun d => d.Perm ((l.map (·.1)).map fun b => b.data.toList)) l.length W := by
  rcases hm with ⟨rfl, rfl⟩ | ⟨m, es, clock, rfl, a1, A⟩
  ·have := AnyZ.keys_gives_nil (ρ := ρk) { LK with } Fence.wide 2 trivial rfl b W i c
   intro l' J W' O M Q I
   refine CallsIn.mono (this l' J W' O M Q I) ?_
   rintro e w' ⟨hv, d, rfl, hj⟩
   exact ⟨hv, [], bH _, hj⟩
  ·obtain ⟨D, E, n, s⟩ := KH hK A R T (by unfold maxLen; omega) a1
   have := AnyZ.keys_gives (ρ := ρk) { LK with } Fence.wide 2 trivial rfl (by omega) b m es.size D W i c E
   intro l' J W' O M Q I
   refine CallsIn.mono (this l' J W' O M (by rw [s]; exact Q) I) ?_
   rintro e w' ⟨hv, d, hp, hj⟩
   refine ⟨hv, d, ?_, hj⟩
   rw [fB]
   exact hp.trans n
 have cS := AnyZ.sorted_in LT Fence.wide 5 trivial trivial trivial trivial rfl (by omega) q es (ρk.f 10) #[.pointer (some ⟨b, 0, none⟩)] trivial eg _ l.length (by unfold maxLen; omega) U W G
 refine dJ (callsIn_wide.1 cS) ?_
 rintro e w' ⟨v, d, rfl, hS, F, a7, a⟩
 have hs := IZ hS
 have hlen : d.length = (vW (l.map (·.1))).length := by
  have := aY List.length hs
  simpa using this
 have k : (d.mergeSort (fun x y => decide (x ≤ y))).map encStr = ((vW (l.map (·.1))).map DL).flatten := by
  rw [hs, QU, fB]
  refine iB (fun x _ => ?_)
  simp only [Function.comp, encStr]
 rcases F.2 with ⟨rfl, I⟩ | ⟨g, cap, z, rfl, j, hg, a8, Y, Z, a6⟩
 ·have : vW (l.map (·.1)) = [] := aV (by omega)
  rw [this]
  exact ⟨_, [], rfl, uY.I7 ⟨a.os, a.tape, a.output, fun h => (by cases h), a.size, fun b u => a.block b u⟩ (fun _ _ h => by cases h) (by simp), lR.nil _ _ _⟩
 ·refine ⟨_, [(g, .cells z (ρt.t 26) (0, 0))], rfl, uY.I7 ⟨a.os, a.tape, a.output, fun h => (by cases h), a.size, fun b u => a.block b u⟩ (fun b o h => by simp at h; obtain ⟨rfl, rfl⟩ := h; exact ⟨hg, j⟩) (by simp), .inr ⟨g, cap, z, by rw [hlen], rfl, by omega, Y, Z, ?_⟩⟩
  rw [← hlen, a6, k]
end
end Go.Proofs.YtklbhegeiijbjaaGreat
namespace Go.Proofs.YtklbhegeiijbjaaGreat
open Go.IntKind renaming wrap → wi0
def gI := @Tryz.underlying9
def gP := @Tryz.zeroValue9
def iq := @Tryz.underlying0
def iI := @Tryz.zeroValue0
def iT := @Tryz.sizeOf9
def jd := @Tryz.underlying4
def ji := @Tryz.isAgg9
def jo := @Tryz.zeroValue4
def ju := @Tryz.sizeOf0
def jF := @Tryz.underlying232
def jG := @Tryz.underlying276
def jH := @Tryz.underlying277
def jI := @Tryz.underlying281
def jJ := @Tryz.underlying284
def jK := @Tryz.underlying235
def jL := @Tryz.underlying310
def jM := @Tryz.underlying314
def jN := @Tryz.underlying343
def jO := @Tryz.underlying200
def jP := @Tryz.underlying261
def jX := @Tryz.isAgg0
def jY := @Tryz.zeroValue232
def jZ := @Tryz.zeroValue276
def kc := @Tryz.zeroValue277
def kd := @Tryz.zeroValue281
def ke := @Tryz.zeroValue284
def kf := @Tryz.zeroValue235
def kh := @Tryz.zeroValue310
def ki := @Tryz.zeroValue314
def kj := @Tryz.zeroValue343
def kk := @Tryz.zeroValue200
def kl := @Tryz.zeroValue261
def kF := @Tryz.underlying3
def kG := @Tryz.underlying5
def kN := @Tryz.sizeOf4
def kU := @Tryz.zeroValue3
def kV := @Tryz.zeroValue5
def kY := @Tryz.isAgg4
def No : Go.Shelf.Ren := ⟨fun | 6 => 114 | 15 => 177 | 14 => 176 | 28 => 238 | 29 => 239 | 20 => 230 | 21 => 231 | 22 => 232 | 23 => 233 | 24 => 234 | 25 => 235 | 26 => 236 | 27 => 237 | 46 => 277 | 47 => 278 | 48 => 279 | 49 => 280 | 50 => 281 | 57 => 317 | n => n, fun | 22 => 28 | 24 => 52 | 25 => 177 | 3 => 3 | 39 => 232 | 0 => 0 | 53 => 284 | 55 => 235 | 4 => 4 | 46 => 277 | 45 => 276 | 50 => 281 | 5 => 5 | 9 => 9 | 66 => 310 | 70 => 314 | 76 => 343 | 77 => 200 | n => n, fun | n => n⟩
theorem QV : Go.Proofs.SlLaysF0.n6 Tryz.prog No := {
 mixed := by kernel_rfl,
 f6 := ⟨Tryz.f114.name, by decide, Tryz.func114.trans (aY some (by kernel_rfl))⟩,
 f14 := ⟨Tryz.f176.name, by decide, Tryz.func176.trans (aY some (by kernel_rfl))⟩,
 f15 := Tryz.func177.trans (aY some (by kernel_rfl)),
 f20 := ⟨Tryz.f230.name, by decide, Tryz.func230.trans (aY some (by kernel_rfl))⟩,
 f21 := ⟨Tryz.f231.name, by decide, Tryz.func231.trans (aY some (by kernel_rfl))⟩,
 f22 := ⟨Tryz.f232.name, by decide, Tryz.func232.trans (aY some (by kernel_rfl))⟩,
 f23 := ⟨Tryz.f233.name, by decide, Tryz.func233.trans (aY some (by kernel_rfl))⟩,
 f24 := ⟨Tryz.f234.name, by decide, Tryz.func234.trans (aY some (by kernel_rfl))⟩,
 f25 := ⟨Tryz.f235.name, by decide, Tryz.func235.trans (aY some (by kernel_rfl))⟩,
 f26 := ⟨Tryz.f236.name, by decide, Tryz.func236.trans (aY some (by kernel_rfl))⟩,
 f27 := ⟨Tryz.f237.name, by decide, Tryz.func237.trans (aY some (by kernel_rfl))⟩,
 f28 := Tryz.func238.trans (aY some (by kernel_rfl)),
 f29 := Tryz.func239.trans (aY some (by kernel_rfl)),
 f46 := ⟨Tryz.f277.name, by decide, Tryz.func277.trans (aY some (by kernel_rfl))⟩,
 f47 := Tryz.func278.trans (aY some (by kernel_rfl)),
 f48 := Tryz.func279.trans (aY some (by kernel_rfl)),
 f49 := ⟨Tryz.f280.name, by decide, Tryz.func280.trans (aY some (by kernel_rfl))⟩,
 f50 := ⟨Tryz.f281.name, by decide, Tryz.func281.trans (aY some (by kernel_rfl))⟩,
 f57 := ⟨Tryz.f317.name, by decide, Tryz.func317.trans (aY some (by kernel_rfl))⟩,
 t0 := iq,
 a0 := jX,
 z0 := ju,
 v0 := iI,
 t3 := kF,
 a3 := Tryz.isAgg3,
 z3 := Tryz.sizeOf3,
 v3 := kU,
 t4 := jd,
 a4 := kY,
 z4 := kN,
 v4 := jo,
 t5 := kG,
 a5 := Tryz.isAgg5,
 z5 := Tryz.sizeOf5,
 v5 := kV,
 t9 := gI,
 a9 := ji,
 z9 := iT,
 v9 := gP,
 t22 := Tryz.underlying28,
 a22 := Tryz.isAgg28,
 z22 := Tryz.sizeOf28,
 v22 := Tryz.zeroValue28,
 t25 := Tryz.underlying177,
 a25 := Tryz.isAgg177,
 z25 := Tryz.sizeOf177,
 v25 := Tryz.zeroValue177,
 t39 := jF,
 a39 := Tryz.isAgg232,
 z39 := Tryz.sizeOf232,
 v39 := jY,
 t45 := jG,
 a45 := Tryz.isAgg276,
 z45 := Tryz.sizeOf276,
 v45 := jZ,
 t46 := jH,
 a46 := Tryz.isAgg277,
 z46 := Tryz.sizeOf277,
 v46 := kc,
 t50 := jI,
 a50 := Tryz.isAgg281,
 z50 := Tryz.sizeOf281,
 v50 := kd,
 t53 := jJ,
 a53 := Tryz.isAgg284,
 z53 := Tryz.sizeOf284,
 v53 := ke,
 t55 := jK,
 a55 := Tryz.isAgg235,
 z55 := Tryz.sizeOf235,
 v55 := kf,
 t66 := jL,
 a66 := Tryz.isAgg310,
 z66 := Tryz.sizeOf310,
 v66 := kh,
 t70 := jM,
 a70 := Tryz.isAgg314,
 z70 := Tryz.sizeOf314,
 v70 := ki,
 t76 := jN,
 a76 := Tryz.isAgg343,
 z76 := Tryz.sizeOf343,
 v76 := kj,
 t77 := jO,
 a77 := Tryz.isAgg200,
 z77 := Tryz.sizeOf200,
 v77 := kk}
def Oh : Go.Shelf.Ren := ⟨fun | 6 => 154 | 15 => 177 | 14 => 208 | 28 => 238 | 29 => 239 | 20 => 252 | 21 => 253 | 22 => 254 | 23 => 255 | 24 => 256 | 25 => 257 | 26 => 258 | 27 => 259 | 46 => 293 | 47 => 278 | 48 => 279 | 49 => 294 | 50 => 295 | 57 => 324 | n => n, fun | 22 => 34 | 24 => 50 | 25 => 214 | 3 => 3 | 39 => 232 | 0 => 0 | 53 => 284 | 55 => 235 | 4 => 4 | 46 => 277 | 45 => 276 | 50 => 281 | 5 => 5 | 9 => 9 | 66 => 310 | 70 => 314 | 76 => 343 | 77 => 200 | n => n, fun | n => n⟩
theorem RO : Go.Proofs.SlLaysF0.n6 Tryz.prog Oh := {
 mixed := by kernel_rfl,
 f6 := ⟨Tryz.f154.name, by decide, Tryz.func154.trans (aY some (by kernel_rfl))⟩,
 f14 := ⟨Tryz.f208.name, by decide, Tryz.func208.trans (aY some (by kernel_rfl))⟩,
 f15 := Tryz.func177.trans (aY some (by kernel_rfl)),
 f20 := ⟨Tryz.f252.name, by decide, Tryz.func252.trans (aY some (by kernel_rfl))⟩,
 f21 := ⟨Tryz.f253.name, by decide, Tryz.func253.trans (aY some (by kernel_rfl))⟩,
 f22 := ⟨Tryz.f254.name, by decide, Tryz.func254.trans (aY some (by kernel_rfl))⟩,
 f23 := ⟨Tryz.f255.name, by decide, Tryz.func255.trans (aY some (by kernel_rfl))⟩,
 f24 := ⟨Tryz.f256.name, by decide, Tryz.func256.trans (aY some (by kernel_rfl))⟩,
 f25 := ⟨Tryz.f257.name, by decide, Tryz.func257.trans (aY some (by kernel_rfl))⟩,
 f26 := ⟨Tryz.f258.name, by decide, Tryz.func258.trans (aY some (by kernel_rfl))⟩,
 f27 := ⟨Tryz.f259.name, by decide, Tryz.func259.trans (aY some (by kernel_rfl))⟩,
 f28 := Tryz.func238.trans (aY some (by kernel_rfl)),
 f29 := Tryz.func239.trans (aY some (by kernel_rfl)),
 f46 := ⟨Tryz.f293.name, by decide, Tryz.func293.trans (aY some (by kernel_rfl))⟩,
 f47 := Tryz.func278.trans (aY some (by kernel_rfl)),
 f48 := Tryz.func279.trans (aY some (by kernel_rfl)),
 f49 := ⟨Tryz.f294.name, by decide, Tryz.func294.trans (aY some (by kernel_rfl))⟩,
 f50 := ⟨Tryz.f295.name, by decide, Tryz.func295.trans (aY some (by kernel_rfl))⟩,
 f57 := ⟨Tryz.f324.name, by decide, Tryz.func324.trans (aY some (by kernel_rfl))⟩,
 t0 := iq,
 a0 := jX,
 z0 := ju,
 v0 := iI,
 t3 := kF,
 a3 := Tryz.isAgg3,
 z3 := Tryz.sizeOf3,
 v3 := kU,
 t4 := jd,
 a4 := kY,
 z4 := kN,
 v4 := jo,
 t5 := kG,
 a5 := Tryz.isAgg5,
 z5 := Tryz.sizeOf5,
 v5 := kV,
 t9 := gI,
 a9 := ji,
 z9 := iT,
 v9 := gP,
 t22 := Tryz.underlying34,
 a22 := Tryz.isAgg34,
 z22 := Tryz.sizeOf34,
 v22 := Tryz.zeroValue34,
 t25 := Tryz.underlying214,
 a25 := Tryz.isAgg214,
 z25 := Tryz.sizeOf214,
 v25 := Tryz.zeroValue214,
 t39 := jF,
 a39 := Tryz.isAgg232,
 z39 := Tryz.sizeOf232,
 v39 := jY,
 t45 := jG,
 a45 := Tryz.isAgg276,
 z45 := Tryz.sizeOf276,
 v45 := jZ,
 t46 := jH,
 a46 := Tryz.isAgg277,
 z46 := Tryz.sizeOf277,
 v46 := kc,
 t50 := jI,
 a50 := Tryz.isAgg281,
 z50 := Tryz.sizeOf281,
 v50 := kd,
 t53 := jJ,
 a53 := Tryz.isAgg284,
 z53 := Tryz.sizeOf284,
 v53 := ke,
 t55 := jK,
 a55 := Tryz.isAgg235,
 z55 := Tryz.sizeOf235,
 v55 := kf,
 t66 := jL,
 a66 := Tryz.isAgg310,
 z66 := Tryz.sizeOf310,
 v66 := kh,
 t70 := jM,
 a70 := Tryz.isAgg314,
 z70 := Tryz.sizeOf314,
 v70 := ki,
 t76 := jN,
 a76 := Tryz.isAgg343,
 z76 := Tryz.sizeOf343,
 v76 := kj,
 t77 := jO,
 a77 := Tryz.isAgg200,
 z77 := Tryz.sizeOf200,
 v77 := kk}
def Q5 : Go.Shelf.Ren := ⟨fun | 6 => 310 | 8 => 177 | 9 => 332 | 19 => 238 | 20 => 239 | 21 => 345 | 22 => 346 | 23 => 347 | 24 => 348 | 25 => 349 | 26 => 350 | 27 => 351 | 28 => 352 | 29 => 353 | 36 => 360 | 31 => 278 | 32 => 279 | 37 => 361 | 38 => 362 | 39 => 363 | 41 => 366 | n => n, fun | 27 => 261 | 29 => 9 | 3 => 3 | 32 => 232 | 26 => 261 | 0 => 0 | 44 => 284 | 46 => 235 | 4 => 4 | 36 => 277 | 35 => 276 | 41 => 281 | 5 => 5 | 9 => 9 | 53 => 310 | 57 => 314 | 63 => 343 | 64 => 200 | n => n, fun | n => n⟩
theorem RF : Go.Proofs.SlLaysM.n6 Tryz.prog Q5 := {
 mixed := by kernel_rfl,
 f6 := ⟨Tryz.f310.name, by decide, Tryz.func310.trans (aY some (by kernel_rfl))⟩,
 f8 := Tryz.func177.trans (aY some (by kernel_rfl)),
 f9 := ⟨Tryz.f332.name, by decide, Tryz.func332.trans (aY some (by kernel_rfl))⟩,
 f19 := Tryz.func238.trans (aY some (by kernel_rfl)),
 f20 := Tryz.func239.trans (aY some (by kernel_rfl)),
 f21 := ⟨Tryz.f345.name, by decide, Tryz.func345.trans (aY some (by kernel_rfl))⟩,
 f22 := ⟨Tryz.f346.name, by decide, Tryz.func346.trans (aY some (by kernel_rfl))⟩,
 f23 := ⟨Tryz.f347.name, by decide, Tryz.func347.trans (aY some (by kernel_rfl))⟩,
 f24 := ⟨Tryz.f348.name, by decide, Tryz.func348.trans (aY some (by kernel_rfl))⟩,
 f25 := ⟨Tryz.f349.name, by decide, Tryz.func349.trans (aY some (by kernel_rfl))⟩,
 f26 := ⟨Tryz.f350.name, by decide, Tryz.func350.trans (aY some (by kernel_rfl))⟩,
 f27 := ⟨Tryz.f351.name, by decide, Tryz.func351.trans (aY some (by kernel_rfl))⟩,
 f28 := ⟨Tryz.f352.name, by decide, Tryz.func352.trans (aY some (by kernel_rfl))⟩,
 f29 := ⟨Tryz.f353.name, by decide, Tryz.func353.trans (aY some (by kernel_rfl))⟩,
 f31 := Tryz.func278.trans (aY some (by kernel_rfl)),
 f32 := Tryz.func279.trans (aY some (by kernel_rfl)),
 f36 := ⟨Tryz.f360.name, by decide, Tryz.func360.trans (aY some (by kernel_rfl))⟩,
 f37 := ⟨Tryz.f361.name, by decide, Tryz.func361.trans (aY some (by kernel_rfl))⟩,
 f38 := ⟨Tryz.f362.name, by decide, Tryz.func362.trans (aY some (by kernel_rfl))⟩,
 f39 := ⟨Tryz.f363.name, by decide, Tryz.func363.trans (aY some (by kernel_rfl))⟩,
 f41 := ⟨Tryz.f366.name, by decide, Tryz.func366.trans (aY some (by kernel_rfl))⟩,
 t0 := iq,
 a0 := jX,
 z0 := ju,
 v0 := iI,
 t3 := kF,
 a3 := Tryz.isAgg3,
 z3 := Tryz.sizeOf3,
 v3 := kU,
 t4 := jd,
 a4 := kY,
 z4 := kN,
 v4 := jo,
 t5 := kG,
 a5 := Tryz.isAgg5,
 z5 := Tryz.sizeOf5,
 v5 := kV,
 t9 := gI,
 a9 := ji,
 z9 := iT,
 v9 := gP,
 t26 := jP,
 a26 := Tryz.isAgg261,
 z26 := Tryz.sizeOf261,
 v26 := kl,
 t27 := jP,
 a27 := Tryz.isAgg261,
 z27 := Tryz.sizeOf261,
 v27 := kl,
 t29 := gI,
 a29 := ji,
 z29 := iT,
 v29 := gP,
 t32 := jF,
 a32 := Tryz.isAgg232,
 z32 := Tryz.sizeOf232,
 v32 := jY,
 t35 := jG,
 a35 := Tryz.isAgg276,
 z35 := Tryz.sizeOf276,
 v35 := jZ,
 t36 := jH,
 a36 := Tryz.isAgg277,
 z36 := Tryz.sizeOf277,
 v36 := kc,
 t41 := jI,
 a41 := Tryz.isAgg281,
 z41 := Tryz.sizeOf281,
 v41 := kd,
 t44 := jJ,
 a44 := Tryz.isAgg284,
 z44 := Tryz.sizeOf284,
 v44 := ke,
 t46 := jK,
 a46 := Tryz.isAgg235,
 z46 := Tryz.sizeOf235,
 v46 := kf,
 t53 := jL,
 a53 := Tryz.isAgg310,
 z53 := Tryz.sizeOf310,
 v53 := kh,
 t57 := jM,
 a57 := Tryz.isAgg314,
 z57 := Tryz.sizeOf314,
 v57 := ki,
 t63 := jN,
 a63 := Tryz.isAgg343,
 z63 := Tryz.sizeOf343,
 v63 := kj,
 t64 := jO,
 a64 := Tryz.isAgg200,
 z64 := Tryz.sizeOf200,
 v64 := kk}
def PS : Go.Shelf.Ren := ⟨fun | 7 => 283 | 10 => 319 | n => n, fun | 23 => 190 | 26 => 9 | 3 => 4 | 28 => 318 | 0 => 0 | 27 => 317 | 33 => 128 | 4 => 4 | n => n, fun | n => n⟩
theorem QJ : Go.Proofs.SlLaysZ.n7 Tryz.prog PS := {
 mixed := by kernel_rfl,
 f7 := ⟨Tryz.f283.name, by decide, Tryz.func283.trans (aY some (by kernel_rfl))⟩,
 f10 := ⟨Tryz.f319.name, by decide, Tryz.func319.trans (aY some (by kernel_rfl))⟩,
 t0 := iq,
 a0 := jX,
 z0 := ju,
 v0 := iI,
 t4 := jd,
 a4 := kY,
 z4 := kN,
 v4 := jo,
 t23 := Tryz.underlying190,
 a23 := Tryz.isAgg190,
 z23 := Tryz.sizeOf190,
 v23 := Tryz.zeroValue190,
 t26 := gI,
 a26 := ji,
 z26 := iT,
 v26 := gP,
 t27 := Tryz.underlying317,
 a27 := Tryz.isAgg317,
 z27 := Tryz.sizeOf317,
 v27 := Tryz.zeroValue317,
 t28 := Tryz.underlying318,
 a28 := Tryz.isAgg318,
 z28 := Tryz.sizeOf318,
 v28 := Tryz.zeroValue318,
 t33 := Tryz.underlying128,
 a33 := Tryz.isAgg128,
 z33 := Tryz.sizeOf128,
 v33 := Tryz.zeroValue128}
def Qd : Go.Shelf.Ren := ⟨fun | 6 => 282 | 8 => 318 | 9 => 310 | 11 => 337 | 13 => 177 | 12 => 332 | 23 => 238 | 24 => 239 | 14 => 345 | 15 => 346 | 16 => 347 | 17 => 348 | 18 => 349 | 19 => 350 | 20 => 351 | 21 => 352 | 22 => 353 | 25 => 360 | 26 => 278 | 27 => 279 | 28 => 361 | 29 => 362 | 30 => 363 | 31 => 366 | n => n, fun | 26 => 9 | 28 => 318 | 24 => 261 | 0 => 0 | 3 => 3 | 37 => 232 | 48 => 284 | 50 => 235 | 4 => 4 | 40 => 277 | 39 => 276 | 45 => 281 | 5 => 5 | 9 => 9 | 51 => 310 | 55 => 314 | 57 => 343 | 58 => 200 | 33 => 128 | n => n, fun | n => n⟩
theorem QE : Go.Proofs.SlLaysZ.n6 Tryz.prog Qd := {
 mixed := by kernel_rfl,
 f6 := ⟨Tryz.f282.name, by decide, Tryz.func282.trans (aY some (by kernel_rfl))⟩,
 f8 := ⟨Tryz.f318.name, by decide, Tryz.func318.trans (aY some (by kernel_rfl))⟩,
 f11 := ⟨Tryz.f337.name, by decide, Tryz.func337.trans (aY some (by kernel_rfl))⟩,
 t0 := iq,
 a0 := jX,
 z0 := ju,
 v0 := iI,
 t24 := jP,
 a24 := Tryz.isAgg261,
 z24 := Tryz.sizeOf261,
 v24 := kl,
 t26 := gI,
 a26 := ji,
 z26 := iT,
 v26 := gP,
 t28 := Tryz.underlying318,
 a28 := Tryz.isAgg318,
 z28 := Tryz.sizeOf318,
 v28 := Tryz.zeroValue318,
 i26 := by kernel_rfl}
end Go.Proofs.YtklbhegeiijbjaaGreat
namespace Go.Proofs.YtklbhegeiijbjaaGreat
open Go.IntKind renaming wrap → wi0
open Go.RowKit
set_option maxRecDepth 10000
noncomputable section
structure lg where
 lh : ByteArray
 lp : ByteArray
def lu (x : lg) : List Value := [.string x.lh, .string x.lp]
def lQ (x y : lg) : Bool := (mK x.lh y.lh) && ((mK x.lp y.lp) && true)
theorem lO {x y : lg} : lQ x y = true ↔ x = y := by
 cases x; cases y; simp [lQ, nD]
theorem oU (x : lg) : (lu x).length = 2 := rfl
theorem ra (x : lg) : ∀ u ∈ lu x, u.oneCell' = true := by
 intro u hu
 simp only [lu, aM, cH, eY] at hu
 rcases hu with rfl | rfl <;> rfl
structure lf where
 Kind : Int
 Head : lg
 lM : ByteArray
 B : lg
 C : lg
 lN : ByteArray
def li (x : lf) : List Value := [.int .i64 x.Kind, .string x.Head.lh, .string x.Head.lp, .string x.lM, .string x.B.lh, .string x.B.lp, .string x.C.lh, .string x.C.lp, .string x.lN]
def nw (x y : lf) : Bool := (x.Kind == y.Kind) && ((lQ x.Head y.Head) && ((mK x.lM y.lM) && ((lQ x.B y.B) && ((lQ x.C y.C) && ((mK x.lN y.lN) && true)))))
theorem pe {x y : lf} : nw x y = true ↔ x = y := by
 cases x; cases y; simp [nw, nD, lO]
theorem mN (x : lf) : (li x).length = 9 := rfl
theorem oQ (x : lf) : ∀ u ∈ li x, u.oneCell' = true := by
 intro u hu
 simp only [li, aM, cH, eY] at hu
 rcases hu with rfl | rfl | rfl | rfl | rfl | rfl | rfl | rfl | rfl <;> rfl
structure lF where
 lg : lg
 lM : ByteArray
def nv (x : lF) : List Value := [.string x.lg.lh, .string x.lg.lp, .string x.lM]
def Bx (x y : lF) : Bool := (lQ x.lg y.lg) && ((mK x.lM y.lM) && true)
theorem AA {x y : lF} : Bx x y = true ↔ x = y := by
 cases x; cases y; simp [Bx, nD, lO]
theorem xd (x : lF) : (nv x).length = 3 := rfl
theorem Lb (x : lF) : ∀ u ∈ nv x, u.oneCell' = true := by
 intro u hu
 simp only [nv, aM, cH, eY] at hu
 rcases hu with rfl | rfl | rfl <;> rfl
structure PU where
 Uo : Int
 Up : Int
structure mu where
 e : Int
def nj (x : mu) : List Value := [.int .i64 x.e]
structure Key where
 lM : ByteArray
 Key : List Int
structure Signed where
 lf : lf
 Tag : List Int
structure oe where
 m : List (ByteArray × (List Int))
structure Formula where
 Op : Int
 K : Int
 lg : lg
 Kids : List Formula
structure mg where
 Signed : Signed
 ly : Formula
structure nQ where
 lg : lg
 ly : Formula
 ns : List lf
structure lm where
 Name : ByteArray
 lJ : List mg
 mf : List nQ
structure Ka where
 lh : lm
 Client : lm
 Formula : Formula
 Q7 : Int
 PK : PU
 Ly : Int
 Pv : Int
 Ns : Int
 Keys : List Key
structure mY where
 lm : lm
 mx : ByteArray
 Room : Int
 lE : List lf
 Shown : List lf
 lT : List lg
 mH : List lg
def pL (a0 : ByteArray) (a : Int) : Option Int :=
 some (yi a0 a)
def sS (a0 : ByteArray) (a : Int) : Option Int :=
 ((pL a0 a).bind fun b => some b)
def vU  : List Int → Option Bool
 | [] => some true
 | c :: a => ((sS (⟨#[97, 98, 99, 100, 101, 102, 103, 104, 105, 106, 107, 108, 109, 110, 111, 112, 113, 114, 115, 116, 117, 118, 119, 120, 121, 122, 48, 49, 50, 51, 52, 53, 54, 55, 56, 57, 45]⟩ : ByteArray) c).bind fun b => (if (decide (b < 0)) then some false else (vU a)))
def Cy (a0 : ByteArray) : Option Bool :=
 ((Dz a0).bind fun a => vU a)
def pT (a0 : ByteArray) : Option Bool :=
 ((if (decide ((a0.size : Int) ≥ 1)) then some (decide ((a0.size : Int) ≤ 16)) else some false).bind fun x2 => ((if x2 then ((Av a0 0).bind fun a => ((sS (⟨#[97, 98, 99, 100, 101, 102, 103, 104, 105, 106, 107, 108, 109, 110, 111, 112, 113, 114, 115, 116, 117, 118, 119, 120, 121, 122]⟩ : ByteArray) (a.toNat : Int)).bind fun c => some (decide (c ≥ 0)))) else some false).bind fun d => ((if d then ((Cy a0).bind fun b => some b) else some false).bind fun g => some g)))
def uf (a0 : List Int) : Option (List Int) :=
 ((ol 1 ([]) a0).bind fun a => some a)
def ve  : List Key → (List (ByteArray × (List Int))) → Option ((Option oe) × Int)
 | [], b => some ((some (⟨b⟩ : oe)), 0)
 | a :: c, b => ((pT a.lM).bind fun g => (if (!g) then some (none, 30) else ((if (decide ((a.Key.length : Int) < 1)) then some true else some (decide ((a.Key.length : Int) > 32))).bind fun i => (if i then some (none, 21) else (if (mL mK b a.lM).isSome then some (none, 41) else ((uf a.Key).bind fun h => ((D3 mK b a.lM h).bind fun d => (ve c d))))))))
def zp (a0 : List Key) : Option ((Option oe) × Int) :=
 ve a0 ([])
def pU (a0 : lg) : Option Bool :=
 ((pT a0.lh).bind fun c => ((if c then ((pT a0.lp).bind fun a => some a) else some false).bind fun b => some b))
def oO (a0 a : ByteArray) : Option Int :=
 some (qx a0 a)
def qS (a0 a : ByteArray) : Option Int :=
 ((oO a0 a).bind fun b => some b)
def tQ  : List Int → Option Int
 | [] => some 0
 | a :: b => (if (a != 0) then some a else (tQ b))
def vN (a0 : List Int) : Option Int :=
 tQ a0
def oV (a0 d : lg) : Option Int :=
 ((qS a0.lh d.lh).bind fun a => ((qS a0.lp d.lp).bind fun b => ((vN ([a, b])).bind fun c => some c)))
def tM (a0 : lf) : Option Bool :=
 ((pU a0.Head).bind fun y => (((if (a0.Kind == 1) then ((if y then ((pT a0.lM).bind fun b => some b) else some false).bind fun o => some (Sum.inr (o, (⟨a0.Kind, a0.Head, a0.lM, (⟨zS, zS⟩ : lg), (⟨zS, zS⟩ : lg), zS⟩ : lf)))) else (if (a0.Kind == 2) then ((if y then ((pU a0.B).bind fun c => some c) else some false).bind fun q => some (Sum.inr (q, (⟨a0.Kind, a0.Head, zS, a0.B, (⟨zS, zS⟩ : lg), zS⟩ : lf)))) else (if (a0.Kind == 3) then ((if y then ((pU a0.B).bind fun g => some g) else some false).bind fun r => ((if r then some (mK a0.B.lh a0.Head.lh) else some false).bind fun t => ((if t then ((pT a0.lN).bind fun d => some d) else some false).bind fun u => some (Sum.inr (u, (⟨a0.Kind, a0.Head, zS, a0.B, (⟨zS, zS⟩ : lg), a0.lN⟩ : lf)))))) else (if (a0.Kind == 4) then ((if y then ((pU a0.B).bind fun j => some j) else some false).bind fun v => ((if v then ((pU a0.C).bind fun i => some i) else some false).bind fun w => ((if w then ((oV a0.B a0.C).bind fun h => some (decide (h < 0))) else some false).bind fun x => some (Sum.inr (x, (⟨a0.Kind, a0.Head, zS, a0.B, a0.C, zS⟩ : lf)))))) else some (Sum.inl false))))) : Option (Bool ⊕ (Bool × lf))).bind fun s => match s with | .inl a => some a | .inr (k, l) => ((if k then some (nw l a0) else some false).bind fun n => some n)))
def tG (a0 : Option oe) (b : lf) : Option ((List Int) × Int) :=
 (if a0.isNone then some ([], 1) else ((tM b).bind fun c => (if (!c) then some ([], 11) else (a0.bind fun a => (if (!((mL mK a.m b.Head.lh).isSome)) then some ([], 21) else some (((mL mK a.m b.Head.lh).getD []), 0))))))
def rk  : Nat → Int → (List Int) → Option (Bool × (List Int))
 | 0, _, _ => none
 | g + 1, a, c => (if (decide (a ≥ 128)) then ((ol 1 c ([(IntKind.u8.wrap (BitVec.ofInt (IntKind.bits .u8) (IntKind.u8.wrap a) ||| BitVec.ofInt (IntKind.bits .u8) 128).toNat)])).bind fun d => (rk g (Int.fdiv a (2 ^ min (Int.toNat 7) (IntKind.bits .i64))) d)) else ((ol 1 c ([(IntKind.u8.wrap a)])).bind fun b => some (true, b)))
def pn (a : List Int) (b : Int) : Option (Bool × (List Int)) :=
 (if (decide (b < 0)) then some (false, a) else rk mq b a)
def yq (a b : List Int) : Option (Bool × (List Int)) :=
 (if (decide ((b.length : Int) > 2048)) then some (false, a) else ((pn a (b.length : Int)).bind fun d => ((ol 1 d.2 b).bind fun c => some (true, c))))
def uO (a : List Int) (h : ByteArray) : Option (Bool × (List Int)) :=
 ((pT h).bind fun i => (((if i then ((Dz h).bind fun d => ((yq a d).bind fun b => some (b.1, b.2))) else some (false, a)) : Option (Bool × (List Int))).bind fun (g, c) => some (g, c)))
def rn (a : List Int) (g : lg) : Option (Bool × (List Int)) :=
 ((pU g).bind fun k => (((if k then ((uO a g.lh).bind fun d => some (d.1, d.2)) else some (false, a)) : Option (Bool × (List Int))).bind fun (i, b) => (((if i then ((uO b g.lp).bind fun c => some (c.1, c.2)) else some (false, b)) : Option (Bool × (List Int))).bind fun (j, h) => some (j, h))))
def uN (a : List Int) : Option (List Int) :=
 ((uf a).bind fun b => some b)
def tL (a0 : lf) : Option (List Int) :=
 ((tM a0).bind fun l => (if (!l) then some [] else ((pn ([]) a0.Kind).bind fun n => ((rn n.2 a0.Head).bind fun a => (((if (a0.Kind == 1) then ((uO a.2 a0.lM).bind fun d => some d.2) else (if (a0.Kind == 2) then ((rn a.2 a0.B).bind fun g => some g.2) else (if (a0.Kind == 3) then ((rn a.2 a0.B).bind fun h => ((uO h.2 a0.lN).bind fun i => some i.2)) else (if (a0.Kind == 4) then ((rn a.2 a0.B).bind fun j => ((rn j.2 a0.C).bind fun k => some k.2)) else some a.2)))) : Option (List Int)).bind fun b => ((uN b).bind fun c => some c))))))
def tq (a0 : List Int) : Option Bool :=
 ((if (decide ((a0.length : Int) ≥ 1)) then some (decide ((a0.length : Int) ≤ 32)) else some false).bind fun x2 => some x2)
def xI  : List Int → Int → Option Int
 | [], a => some a
 | c :: b, a => (xI b (IntKind.u64.wrap ((IntKind.u64.wrap (BitVec.ofInt (IntKind.bits .u64) a ^^^ BitVec.ofInt (IntKind.bits .u64) (IntKind.u64.wrap c)).toNat) * 1099511628211)))
def xL  : List (List Int) → Int → Option Int
 | [], a => some a
 | c :: b, a => ((xI c a).bind fun d => (xL b d))
def ED (a0 : List (List Int)) : Option Int :=
 xL a0 14695981039346656037
def ud (b : Int) : List Int → Nat → (List Int) → Option (List Int)
 | [], _, a => some a
 | g :: c, i68, a => ((rO (decide (0 ≤ (wi0 .i64 (8 * (wi0 .i64 (7 - (i68 : Int)))))))).bind fun _ => ((mZ a (i68 : Int)).bind fun d => (ud b c (i68 + 1) (a.set (Int.toNat (i68 : Int)) (IntKind.u8.wrap (Int.fdiv b (2 ^ min (Int.toNat (wi0 .i64 (8 * (wi0 .i64 (7 - (i68 : Int)))))) (IntKind.bits .u64))))))))
def zL (a0 c : List Int) : Option (List Int) :=
 ((tq a0).bind fun d => (if (!d) then some [] else ((ED ([[(IntKind.u8.wrap (a0.length : Int))], a0, c, a0])).bind fun b => ((Dw 1 0 8).bind fun a => ud b a 0 a))))
def pO (a0 : Option oe) (a : lf) : Option (Signed × Int) :=
 ((tG a0 a).bind fun b => (if (b.2 != 0) then some ((⟨(⟨0, (⟨zS, zS⟩ : lg), zS, (⟨zS, zS⟩ : lg), (⟨zS, zS⟩ : lg), zS⟩ : lf), []⟩ : Signed), b.2) else ((tL a).bind fun c => ((zL b.1 c).bind fun d => some ((⟨a, d⟩ : Signed), 0)))))
def yM (a0 a : List Int) : Option Bool :=
 some (mK (xf a0) (xf a))
def yf (a0 d a2 : List Int) : Option Bool :=
 ((tq a0).bind fun g => ((if g then ((zL a0 d).bind fun a => ((yM a a2).bind fun b => some b)) else some false).bind fun c => some c))
def qo (a0 : Option oe) (d : Signed) : Option Int :=
 ((tG a0 d.lf).bind fun g => ((if (g.2 == 0) then ((tL d.lf).bind fun a => ((yf g.1 a d.Tag).bind fun b => some (!b))) else some false).bind fun c => (if c then some 20 else some g.2)))
def qY (a0 : List lf) : Option (List lf) :=
 ((ol 136 ([]) a0).bind fun a => some a)
def pR (f1 : lf → Option Bool) : List lf → Nat → Option Int
 | [], _ => some (-1)
 | c :: a, i35 => ((f1 c).bind fun b => (if b then some (i35 : Int) else (pR f1 a (i35 + 1))))
def qN (a0 : List lf) (f1 : lf → Option Bool) : Option Int :=
 pR f1 a0 0
def oR (f1 : lf → Option Bool) : Nat → (List lf) → Int → Int → Option (List lf)
 | 0, _, _, _ => none
 | n321 + 1, b, a, c => (if (decide (c < (b.length : Int))) then ((((mZ b c).bind fun d => ((f1 d).bind fun h => (if (!h) then ((mZ b a).bind fun j => some ((b.set (Int.toNat a) d), (wi0 .i64 (a + 1)))) else some (b, a)))) : Option ((List lf) × Int)).bind fun (g, i) => (oR f1 n321 g i (wi0 .i64 (c + 1)))) else ((rO (decide (0 ≤ a) && decide (a ≤ (b.length : Int)))).bind fun _ => ((rO (decide (0 ≤ a) && decide (a ≤ ((oZ b (Int.toNat a) (⟨0, (⟨zS, zS⟩ : lg), zS, (⟨zS, zS⟩ : lg), (⟨zS, zS⟩ : lg), zS⟩ : lf)).length : Int)))).bind fun _ => some ((oZ b (Int.toNat a) (⟨0, (⟨zS, zS⟩ : lg), zS, (⟨zS, zS⟩ : lg), (⟨zS, zS⟩ : lg), zS⟩ : lf)).take (Int.toNat a)))))
def qy (a0 : List lf) (f1 : lf → Option Bool) : Option (List lf) :=
 ((qN a0 f1).bind fun a => (if (a == (-1)) then some a0 else oR f1 mq a0 a (wi0 .i64 (a + 1))))
def yF (a0 : lf) : Option Bool :=
 ((tM a0).bind fun a => some (!a))
def xw (a0 a : List Int) : Option Int :=
 some (zb a0 a)
def uD (a0 d : lf) : Option Int :=
 ((tL a0).bind fun a => ((tL d).bind fun b => ((xw a b).bind fun c => some c)))
def pv (b : Int) : Nat → (List lf) → Int → Int → Option ((List lf) × Int)
 | 0, _, _, _ => none
 | h + 1, a, c, d => (if (decide (d < ((a.length - (Int.toNat b) : Nat) : Int))) then ((((mZ (a.drop (Int.toNat b)) d).bind fun j => ((mZ (a.drop (Int.toNat b)) (wi0 .i64 (d - 1))).bind fun k => (if (!(nw j k)) then ((mZ (a.drop (Int.toNat b)) d).bind fun l => ((mZ a c).bind fun n => some ((a.set (Int.toNat c) l), (wi0 .i64 (c + 1))))) else some (a, c)))) : Option ((List lf) × Int)).bind fun (g, i) => (pv b h g i (wi0 .i64 (d + 1)))) else some (a, c))
def pB (a0 : List lf) : Nat → Int → Option (List lf)
 | 0, _ => none
 | d + 1, a => (if (decide (a < (a0.length : Int))) then ((mZ a0 a).bind fun g => ((mZ a0 (wi0 .i64 (a - 1))).bind fun h => (if (nw g h) then ((rO (decide (0 ≤ a) && decide (a ≤ (a0.length : Int)))).bind fun _ => ((pv a mq a0 a 1).bind fun (c, b) => ((rO (decide (0 ≤ b) && decide (b ≤ (c.length : Int)))).bind fun _ => ((rO (decide (0 ≤ b) && decide (b ≤ ((oZ c (Int.toNat b) (⟨0, (⟨zS, zS⟩ : lg), zS, (⟨zS, zS⟩ : lg), (⟨zS, zS⟩ : lg), zS⟩ : lf)).length : Int)))).bind fun _ => some ((oZ c (Int.toNat b) (⟨0, (⟨zS, zS⟩ : lg), zS, (⟨zS, zS⟩ : lg), (⟨zS, zS⟩ : lg), zS⟩ : lf)).take (Int.toNat b)))))) else (pB a0 d (wi0 .i64 (a + 1)))))) else some a0)
def tT (a0 : List lf) : Option (List lf) :=
 (if (decide ((a0.length : Int) < 2)) then some a0 else pB a0 mq 1)
def pM (a0 : List lf) : Option (List lf) :=
 ((qY a0).bind fun d => ((qy d (fun (x : lf) => yF x)).bind fun a => ((yL (fun (x : (lf × lf)) => uD x.1 x.2) a).bind fun b => ((tT b).bind fun c => some c))))
def rf (c : lf) : List lf → Nat → Option Int
 | [], _ => some (-1)
 | b :: a, i46 => (if (nw c b) then some (i46 : Int) else (rf c a (i46 + 1)))
def xl (a0 : List lf) (a : lf) : Option Int :=
 rf a a0 0
def tC (a0 : List lf) (a : lf) : Option Bool :=
 ((xl a0 a).bind fun b => some (decide (b ≥ 0)))
def qM (a0 : List lf) (a : lf) : Option Bool :=
 ((tC a0 a).bind fun b => some b)
def zx (a0 : lf) : Option (List lg) :=
 ((tM a0).bind fun g => (if (!g) then some [] else (((if (a0.Kind != 1) then ((ol 32 ([a0.Head]) ([a0.B])).bind fun d => some d) else some ([a0.Head])) : Option (List lg)).bind fun a => (((if (a0.Kind == 4) then ((ol 32 a ([a0.C])).bind fun c => some c) else some a) : Option (List lg)).bind fun b => some b))))
def pI (h : lf) (a : List (ByteArray × (List lf))) (d : List lf) : List lg → (List (lg × (List lf))) → Option ((List lf) × (List (lg × (List lf))) × (List (ByteArray × (List lf))))
 | [], b => (if (h.Kind == 3) then ((ol 136 ((mL mK a h.lN).getD []) ([h])).bind fun j => some (d, b, (pw mK a h.lN j))) else some (d, b, a))
 | c :: g, b => ((ol 136 ((mL lQ b c).getD []) ([h])).bind fun i => (pI h a d g (pw lQ b c i)))
def uu (h : List (lg × (List (ByteArray × Bool)))) (a : List lf) (c : List (lg × (List lf))) (b : List (ByteArray × (List lf))) (d : List lF) (k : Int) (i : lf) : Option ((List lf) × (List (lg × (List lf))) × (List (ByteArray × (List lf)))) :=
 ((ol 136 a ([i])).bind fun j => ((zx i).bind fun g => ((rO (decide (0 ≤ 1) && decide (1 ≤ (g.length : Int)))).bind fun _ => pI i b j (g.drop (Int.toNat 1)) c)))
def pa (a : List (lg × (List (ByteArray × Bool)))) (d : List lf) (h : List (lg × (List lf))) (g : List (ByteArray × (List lf))) (b : List lF) (c : Int) (i : lg) (a2 : ByteArray) : Option ((List (lg × (List (ByteArray × Bool)))) × (List lF) × Int) :=
 (if (ye mK ((mL lQ a i).getD []) a2 false) then some (a, b, c) else (((if (mL lQ a i).isNone then ((D3 lQ a i ([])).bind fun j => some j) else some a) : Option (List (lg × (List (ByteArray × Bool))))).bind fun k => ((Gi lQ mK k i a2 true).bind fun l => ((ol 48 b ([(⟨i, a2⟩ : lF)])).bind fun n => some (l, n, (wi0 .i64 (c + 1)))))))
def pV (a0 : List (ByteArray × Bool)) : Option Unit :=
 some ()
def rR (a : List (lg × (List (ByteArray × Bool)))) (b : List lf) (g : List (lg × (List lf))) (c : List (ByteArray × (List lf))) (d : List lF) (i : Int) (j : lg) : Option (List ByteArray) :=
 ((pV ((mL lQ a j).getD [])).bind fun k => ((GW ((mL lQ a j).getD [])).bind fun h => some h))
def rh (a : List lf) (c : List (lg × (List lf))) (b : List (ByteArray × (List lf))) (a2 : lg) : List ByteArray → (List (lg × (List (ByteArray × Bool)))) → (List lF) → Int → Option ((List (lg × (List (ByteArray × Bool)))) × (List lF) × Int)
 | [], d, g, i => some (d, g, i)
 | k :: j, d, g, i => ((pa d a c b g i a2 k).bind fun h => (rh a c b a2 j h.1 h.2.1 h.2.2))
def uV (g : List (lg × (List (ByteArray × Bool)))) (a : List lf) (d : List (lg × (List lf))) (b : List (ByteArray × (List lf))) (c : List lF) (h : Int) (i a2 : lg) : Option ((List (lg × (List (ByteArray × Bool)))) × (List lF) × Int) :=
 ((rR g a d b c h i).bind fun j => rh a d b a2 j g c h)
def sN (a : List (lg × (List (ByteArray × Bool)))) (c : List lf) (g : List (lg × (List lf))) (d : List (ByteArray × (List lf))) (b : List lF) (h : Int) (i : lf) (a2 : lF) : Option ((List (lg × (List (ByteArray × Bool)))) × (List lF) × Int) :=
 (if (i.Kind == 2) then ((pa a c g d b h i.Head a2.lM).bind fun l => some (l.1, l.2.1, l.2.2)) else (if (i.Kind == 3) then ((uV a c g d b h (⟨a2.lM, i.lN⟩ : lg) i.Head).bind fun j => some (j.1, j.2.1, j.2.2)) else (if (i.Kind == 4) then ((if (ye mK ((mL lQ a i.B).getD []) a2.lM false) then some (ye mK ((mL lQ a i.C).getD []) a2.lM false) else some false).bind fun n => (if n then ((pa a c g d b h i.Head a2.lM).bind fun k => some (k.1, k.2.1, k.2.2)) else some (a, b, h))) else some (a, b, h))))
def qw (a : List lf) (c : List (lg × (List lf))) (b : List (ByteArray × (List lf))) (l : lf) : List ByteArray → (List (lg × (List (ByteArray × Bool)))) → (List lF) → Int → Option ((List (lg × (List (ByteArray × Bool)))) × (List lF) × Int)
 | [], d, g, i => some (d, g, i)
 | k :: j, d, g, i => ((sN d a c b g i l (⟨l.B, k⟩ : lF)).bind fun h => (qw a c b l j h.1 h.2.1 h.2.2))
def tR (g : List (lg × (List (ByteArray × Bool)))) (a : List lf) (d : List (lg × (List lf))) (b : List (ByteArray × (List lf))) (c : List lF) (h : Int) (i : lf) : Option ((List (lg × (List (ByteArray × Bool)))) × (List lF) × Int) :=
 (if (i.Kind == 1) then ((pa g a d b c h i.Head i.lM).bind fun k => some (k.1, k.2.1, k.2.2)) else ((rR g a d b c h i.B).bind fun j => qw a d b i j g c h))
def pf (h : lF) (a : List lf) (c : List (lg × (List lf))) (b : List (ByteArray × (List lf))) : List lf → (List (lg × (List (ByteArray × Bool)))) → (List lF) → Int → Option ((List (lg × (List (ByteArray × Bool)))) × (List lF) × Int)
 | [], d, g, i => some (d, g, i)
 | l :: k, d, g, i => (if (ye mK ((mL lQ d l.B).getD []) h.lg.lh false) then ((pa d a c b g i l.Head h.lM).bind fun j => (pf h a c b k j.1 j.2.1 j.2.2)) else (pf h a c b k d g i))
def qg (a : List lf) (c : List (lg × (List lf))) (b : List (ByteArray × (List lf))) (j : lF) : List lf → (List (lg × (List (ByteArray × Bool)))) → (List lF) → Int → Option ((List (lg × (List (ByteArray × Bool)))) × (List lF) × Int)
 | [], d, g, i => some (d, g, i)
 | l :: k, d, g, i => ((sN d a c b g i l j).bind fun h => (qg a c b j k h.1 h.2.1 h.2.2))
def oG (c : List lf) (b : List (lg × (List lf))) (a : List (ByteArray × (List lf))) : Nat → (List (lg × (List (ByteArray × Bool)))) → (List lF) → Int → Option ((List (lg × (List (ByteArray × Bool)))) × (List lF) × Int)
 | 0, _, _, _ => none
 | o + 1, h, d, i => (if (decide ((d.length : Int) > 0)) then ((mZ d 0).bind fun g => ((rO (decide (0 ≤ 1) && decide (1 ≤ (d.length : Int)))).bind fun _ => ((qg c b a g ((mL lQ b g.lg).getD []) h (d.drop (Int.toNat 1)) i).bind fun (j, k, q) => ((pf g c b a ((mL mK a g.lg.lp).getD []) j k q).bind fun (l, n, r) => (oG c b a o l n r))))) else some (h, d, i))
def vy (g : List (lg × (List (ByteArray × Bool)))) (a : List lf) (d : List (lg × (List lf))) (b : List (ByteArray × (List lf))) (c : List lF) (h : Int) : Option ((List (lg × (List (ByteArray × Bool)))) × (List lF) × Int) :=
 oG a d b mq g c h
def pc (l : Int) : List lf → (List (lg × (List (ByteArray × Bool)))) → (List lf) → (List (lg × (List lf))) → (List (ByteArray × (List lf))) → (List lF) → Int → Option (Int × (List (lg × (List (ByteArray × Bool)))) × (List lf) × (List (lg × (List lf))) × (List (ByteArray × (List lf))) × (List lF) × Int)
 | [], c, a, d, g, h, i => ((vy c a d g h i).bind fun j => some ((wi0 .i64 (j.2.2 - l)), j.1, a, d, g, j.2.1, j.2.2))
 | k :: o, c, a, d, g, h, i => ((tM k).bind fun q => ((if q then ((qM a k).bind fun r => some (!r)) else some false).bind fun s => (if s then ((uu c a d g h i k).bind fun b => ((tR c b.1 b.2.1 b.2.2 h i k).bind fun n => (pc l o n.1 b.1 b.2.1 b.2.2 n.2.1 n.2.2))) else (pc l o c a d g h i))))
def uU (g : List (lg × (List (ByteArray × Bool)))) (a : List lf) (d : List (lg × (List lf))) (b : List (ByteArray × (List lf))) (c : List lF) (h : Int) (i : List lf) : Option (Int × (List (lg × (List (ByteArray × Bool)))) × (List lf) × (List (lg × (List lf))) × (List (ByteArray × (List lf))) × (List lF) × Int) :=
 pc h i g a d b c h
def wB (a0 : List lf) : Option ((List (lg × (List (ByteArray × Bool)))) × (List lf) × (List (lg × (List lf))) × (List (ByteArray × (List lf))) × (List lF) × Int) :=
 ((uU ([]) ([]) ([]) ([]) ([]) 0 a0).bind fun a => some (a.2.1, a.2.2.1, a.2.2.2.1, a.2.2.2.2.1, a.2.2.2.2.2.1, a.2.2.2.2.2.2))
def rq (a0 d : lF) : Option Int :=
 ((oV a0.lg d.lg).bind fun a => ((qS a0.lM d.lM).bind fun b => ((vN ([a, b])).bind fun c => some c)))
def xk (c : List (lg × (List (ByteArray × Bool)))) (d : List lf) (i : List (lg × (List lf))) (g : List (ByteArray × (List lf))) (h : List lF) (k : Int) : Option (List lF) :=
 ((NZ 48 (fun (a : lg) (b : ByteArray) => (⟨a, b⟩ : lF)) c).bind fun l => EY l (fun j => ((yL (fun (x : (lF × lF)) => rq x.1 x.2) j).bind fun n => some n)))
def tb (a : List (lg × (List (ByteArray × Bool)))) (b : List lf) (g : List (lg × (List lf))) (c : List (ByteArray × (List lf))) (d : List lF) (h : Int) (i : lg) (a2 : ByteArray) : Option Bool :=
 some (ye mK ((mL lQ a i).getD []) a2 false)
def sV  : List lf → Int → Option Int
 | [], b => some b
 | a :: c, b => (sV c (wi0 .i64 (b + (wi0 .i64 ((wi0 .i64 ((wi0 .i64 ((wi0 .i64 ((wi0 .i64 ((wi0 .i64 ((wi0 .i64 ((wi0 .i64 (20 + (a.Head.lh.size : Int))) + (a.Head.lp.size : Int))) + (a.lM.size : Int))) + (a.B.lh.size : Int))) + (a.B.lp.size : Int))) + (a.C.lh.size : Int))) + (a.C.lp.size : Int))) + (a.lN.size : Int))))))
def po (a0 : List lf) : Option Int :=
 sV a0 0
def pN  : List Signed → Int → Option Int
 | [], a => some a
 | b :: c, a => ((po ([b.lf])).bind fun d => (pN c (wi0 .i64 (a + (wi0 .i64 (d + (b.Tag.length : Int)))))))
def qC (g : List Signed) : List Key → Int → Option Int
 | [], a => ((pN g a).bind fun b => some b)
 | c :: d, a => (qC g d (wi0 .i64 (a + (wi0 .i64 ((wi0 .i64 (10 + (c.lM.size : Int))) + (c.Key.length : Int))))))
def rD (a0 : List Key) (a : List Signed) : Option Int :=
 qC a a0 0
def uH (a0 : ByteArray) : Nat → Int → Option Bool
 | 0, _ => none
 | c + 1, b => (if (decide (b < (a0.size : Int))) then ((Av a0 b).bind fun a => ((if (decide ((a.toNat : Int) < 97)) then some true else some (decide ((a.toNat : Int) > 122))).bind fun d => ((if d then ((if (decide ((a.toNat : Int) < 48)) then some true else some (decide ((a.toNat : Int) > 57))).bind fun i => some i) else some false).bind fun g => ((if g then some ((a.toNat : Int) != 45) else some false).bind fun h => (if h then some false else (uH a0 c (wi0 .i64 (b + 1)))))))) else some true)
def uc (a0 : ByteArray) : Option Bool :=
 ((if (mK a0 zS) then some true else some (decide ((a0.size : Int) > 16))).bind fun x2 => ((if x2 then some true else ((Av a0 0).bind fun b => some (decide ((b.toNat : Int) < 97)))).bind fun c => ((if c then some true else ((Av a0 0).bind fun a => some (decide ((a.toNat : Int) > 122)))).bind fun d => (if d then some false else uH a0 mq 0))))
def wW (a0 : lg) : Option Bool :=
 ((uc a0.lh).bind fun c => ((if c then ((uc a0.lp).bind fun a => some a) else some false).bind fun b => some b))
def zA (a0 a : lg) : Option Bool :=
 ((if (sa a0.lh a.lh) then some true else ((if (mK a0.lh a.lh) then some (sa a0.lp a.lp) else some false).bind fun c => some c)).bind fun b => some b)
def wZ (a0 : lf) : Option Bool :=
 ((wW a0.Head).bind fun t => (if (!t) then some false else (if (a0.Kind == 1) then ((uc a0.lM).bind fun h => ((if h then some (lQ a0.B (⟨zS, zS⟩ : lg)) else some false).bind fun j => ((if j then some (lQ a0.C (⟨zS, zS⟩ : lg)) else some false).bind fun k => ((if k then some (mK a0.lN zS) else some false).bind fun l => some l)))) else ((if (!(mK a0.lM zS)) then some true else ((wW a0.B).bind fun c => some (!c))).bind fun n => (if n then some false else (if (a0.Kind == 2) then ((if (lQ a0.C (⟨zS, zS⟩ : lg)) then some (mK a0.lN zS) else some false).bind fun o => some o) else (if (a0.Kind == 3) then ((if (lQ a0.C (⟨zS, zS⟩ : lg)) then some (mK a0.B.lh a0.Head.lh) else some false).bind fun q => ((if q then ((uc a0.lN).bind fun i => some i) else some false).bind fun r => some r)) else ((if (a0.Kind == 4) then some (mK a0.lN zS) else some false).bind fun s => ((if s then ((wW a0.C).bind fun b => some b) else some false).bind fun d => ((if d then ((zA a0.B a0.C).bind fun a => some a) else some false).bind fun g => some g))))))))))
def yp  : Nat → Int → ByteArray → Option ByteArray
 | 0, _, _ => none
 | n45 + 1, a, b => (if (decide (a ≥ 128)) then ((yV b (xf ([(IntKind.u8.wrap (wi0 .i64 (128 + (Int.tmod a 128))))]))).bind fun c => (yp n45 (wi0 .i64 (Int.tdiv a 128)) c)) else ((yV b (xf ([(IntKind.u8.wrap a)]))).bind fun d => some d))
def yj (a0 : Int) : Option ByteArray :=
 yp mq a0 zS
def wg (a0 : ByteArray) : Option ByteArray :=
 ((yj (a0.size : Int)).bind fun a => ((yV a a0).bind fun b => some b))
def xa (a0 : lg) : Option ByteArray :=
 ((wg a0.lh).bind fun a => ((wg a0.lp).bind fun b => ((yV a b).bind fun c => some c)))
def wR (a0 : lf) : Option ByteArray :=
 ((yj a0.Kind).bind fun d => ((xa a0.Head).bind fun g => ((yV d g).bind fun a => (if (a0.Kind == 1) then ((wg a0.lM).bind fun h => ((yV a h).bind fun l => some l)) else ((xa a0.B).bind fun i => ((yV a i).bind fun b => (((if (a0.Kind == 3) then ((wg a0.lN).bind fun k => ((yV b k).bind fun o => some o)) else some b) : Option ByteArray).bind fun c => (((if (a0.Kind == 4) then ((xa a0.C).bind fun j => ((yV c j).bind fun n => some n)) else some c) : Option ByteArray).bind fun q => some q))))))))
def vZ (a0 : ByteArray) : Nat → Int → Int → Option Int
 | 0, _, _ => none
 | n38 + 1, b, a => (if (decide (a < (a0.size : Int))) then ((Av a0 a).bind fun c => (vZ a0 n38 (IntKind.u64.wrap ((IntKind.u64.wrap (BitVec.ofInt (IntKind.bits .u64) b ^^^ BitVec.ofInt (IntKind.bits .u64) (IntKind.u64.wrap (c.toNat : Int))).toNat) * 1099511628211)) (wi0 .i64 (a + 1)))) else some b)
def CQ (a0 : ByteArray) : Option Int :=
 vZ a0 mq 14695981039346656037 0
def sn  : Nat → Int → ByteArray → Int → Option ByteArray
 | 0, _, _, _ => none
 | d + 1, a, b, c => (if (decide (c < 8)) then ((yV (xf ([(IntKind.u8.wrap (Int.tmod a 256))])) b).bind fun g => (sn d (IntKind.u64.wrap (Int.tdiv a 256)) g (wi0 .i64 (c + 1)))) else some b)
def BF (a0 a : ByteArray) : Option ByteArray :=
 ((yV (xf ([(IntKind.u8.wrap (a0.size : Int))])) a0).bind fun c => ((yV c a).bind fun d => ((yV d a0).bind fun g => ((CQ g).bind fun b => sn mq b zS 0))))
def zG (a0 b : Signed) : Option Bool :=
 ((if (nw a0.lf b.lf) then some (mK (xf a0.Tag) (xf b.Tag)) else some false).bind fun a => some a)
def xR (c : lf) : List Key → Option (ByteArray × Int)
 | [] => some (zS, 21)
 | a :: b => (if (mK a.lM c.Head.lh) then some ((xf a.Key), 0) else (xR c b))
def F0 (a0 : List Key) (a : lf) : Option (ByteArray × Int) :=
 ((wZ a).bind fun b => (if (!b) then some (zS, 11) else xR a a0))
def D7 (a0 : List Key) (a : Signed) : Option Int :=
 ((F0 a0 a.lf).bind fun b => ((if (b.2 == 0) then ((wR a.lf).bind fun c => ((BF b.1 c).bind fun d => some (!(mK d (xf a.Tag))))) else some false).bind fun g => (if g then some 20 else some b.2)))
def wS (a0 : lf) : Option ByteArray :=
 ((wZ a0).bind fun a => (if (!a) then some zS else ((wR a0).bind fun b => some b)))
def vp (a0 c : lf) : Option Int :=
 ((wS a0).bind fun a => ((wS c).bind fun b => (if (sa a b) then some (-1) else (if (!(sa a b || mK a b)) then some 1 else some 0))))
def uA (a : List lf) : List lf → Bool → lf → Option (Bool × lf)
 | [], c, d => some (c, d)
 | b :: g, c, d => ((wZ b).bind fun h => ((if h then ((if ((a.length : Int) == 0) then some true else ((mZ a (wi0 .i64 ((a.length : Int) - 1))).bind fun q => ((vp q b).bind fun j => some (decide (j < 0))))).bind fun o => some o) else some false).bind fun k => ((if k then ((if (!c) then some true else ((vp b d).bind fun i => some (decide (i < 0)))).bind fun n => some n) else some false).bind fun l => (if l then (uA a g true b) else (uA a g c d)))))
def yc (a0 : List lf) : Nat → (List lf) → Option (List lf)
 | 0, _ => none
 | c + 1, a => ((uA a a0 false (⟨0, (⟨zS, zS⟩ : lg), zS, (⟨zS, zS⟩ : lg), (⟨zS, zS⟩ : lg), zS⟩ : lf)).bind fun (d, g) => (if (!d) then some a else ((ol 136 a ([g])).bind fun b => (yc a0 c b))))
def F2 (a0 : List lf) : Option (List lf) :=
 yc a0 mq ([])
def uC (a : List ByteArray) : List ByteArray → ByteArray → Option ByteArray
 | [], c => some c
 | b :: d, c => ((uc b).bind fun h => ((if h then ((if ((a.length : Int) == 0) then some true else ((mZ a (wi0 .i64 ((a.length : Int) - 1))).bind fun g => some (!(sa b g || mK b g)))).bind fun l => some l) else some false).bind fun i => ((if i then ((if (mK c zS) then some true else some (sa b c)).bind fun k => some k) else some false).bind fun j => (if j then (uC a d b) else (uC a d c)))))
def yh (a0 : List ByteArray) : Nat → (List ByteArray) → Option (List ByteArray)
 | 0, _ => none
 | d + 1, a => ((uC a a0 zS).bind fun b => (if (mK b zS) then some a else ((ol 16 a ([b])).bind fun c => (yh a0 d c))))
def CB (a0 : List ByteArray) : Option (List ByteArray) :=
 yh a0 mq ([])
def uQ  : List lf → (List ByteArray) → Option (List ByteArray)
 | [], b => ((CB b).bind fun d => some d)
 | a :: g, b => ((ol 16 b ([a.lM, a.Head.lh, a.B.lh, a.C.lh])).bind fun c => (uQ g c))
def AX (a0 : List lf) : Option (List ByteArray) :=
 uQ a0 ([])
def yE (d : lg) (a2 : ByteArray) : List lF → Option Bool
 | [] => some false
 | b :: c => ((if (lQ b.lg d) then some (mK b.lM a2) else some false).bind fun a => (if a then some true else (yE d a2 c)))
def wG (a0 : List lF) (a : lg) (a2 : ByteArray) : Option Bool :=
 yE a a2 a0
def xp (a0 : List lF) (h : lf) (a3 : ByteArray) : List ByteArray → Option Bool
 | [] => some false
 | a :: b => ((wG a0 h.B a).bind fun c => ((if c then ((wG a0 (⟨a, h.lN⟩ : lg) a3).bind fun d => some d) else some false).bind fun g => (if g then some true else (xp a0 h a3 b))))
def BU (a0 : List lF) (a : lf) (a2 : List ByteArray) (a3 : ByteArray) : Option Bool :=
 (if (a.Kind == 1) then some (mK a.lM a3) else (if (a.Kind == 2) then ((wG a0 a.B a3).bind fun d => some d) else (if (a.Kind == 4) then ((wG a0 a.B a3).bind fun g => ((if g then ((wG a0 a.C a3).bind fun b => some b) else some false).bind fun c => some c)) else xp a0 a a3 a2)))
def vM (a0 a : lF) : Option Bool :=
 ((zA a0.lg a.lg).bind fun d => ((if d then some true else ((if (lQ a0.lg a.lg) then some (sa a0.lM a.lM) else some false).bind fun c => some c)).bind fun b => some b))
def qT (b a0 : List lF) : List lF → Nat → Int → Option Int
 | [], _, a => some a
 | g :: d, c, a => ((if ((b.length : Int) == 0) then some true else ((mZ b (wi0 .i64 ((b.length : Int) - 1))).bind fun o => ((vM o g).bind fun i => some i))).bind fun j => ((if j then ((if (decide (a < 0)) then some true else ((mZ a0 a).bind fun n => ((vM g n).bind fun h => some h))).bind fun l => some l) else some false).bind fun k => (if k then (qT b a0 d (c + 1) (c : Int)) else (qT b a0 d (c + 1) a))))
def qQ (a0 : List lF) : List lF → (List lF) → Option (List lF)
 | [], a => some a
 | h :: c, a => ((qT a a0 a0 0 (-1)).bind fun b => (if (decide (b ≥ 0)) then ((mZ a0 b).bind fun g => ((ol 48 a ([g])).bind fun d => (qQ a0 c d))) else (qQ a0 c a)))
def Dl (a0 : List lF) : Option (List lF) :=
 qQ a0 a0 ([])
def xb (b : lf) (l : List ByteArray) : List ByteArray → (List lF) → Bool → Option ((List lF) × Bool)
 | [], a, d => some (a, d)
 | c :: g, a, d => ((wG a b.Head c).bind fun i => ((if (!i) then ((BU a b l c).bind fun j => some j) else some false).bind fun k => (if k then ((ol 48 a ([(⟨b.Head, c⟩ : lF)])).bind fun h => (xb b l g h true)) else (xb b l g a d))))
def yN (i : List ByteArray) : List lf → (List lF) → Bool → Option ((List lF) × Bool)
 | [], a, b => some (a, b)
 | g :: c, a, b => ((xb g i i a b).bind fun (d, h) => (yN i c d h))
def yH (h : List ByteArray) (i : List lf) : Nat → (List lF) → Option (List lF)
 | 0, _ => none
 | b + 1, g => ((yN h i g false).bind fun (a, d) => (if (!d) then ((Dl a).bind fun c => some c) else (yH h i b a)))
def Bm (a0 : List lf) : Option (List lF) :=
 ((F2 a0).bind fun b => ((AX b).bind fun a => yH a b mq ([])))
def zI (a0 : List lf) (b : ByteArray) : Option ((List (lg × (List (ByteArray × Bool)))) × (List lf) × (List (lg × (List lf))) × (List (ByteArray × (List lf))) × (List lF) × Int × ByteArray) :=
 ((wB a0).bind fun a => some (a.1, a.2.1, a.2.2.1, a.2.2.2.1, a.2.2.2.2.1, a.2.2.2.2.2, b))
def oE (f1 : mg → Option Bool) : List mg → Nat → Option Int
 | [], _ => some (-1)
 | c :: a, i47 => ((f1 c).bind fun b => (if b then some (i47 : Int) else (oE f1 a (i47 + 1))))
def pW (a0 : List mg) (f1 : mg → Option Bool) : Option Int :=
 oE f1 a0 0
def xq (a0 : mg) (a : lf) : Option Bool :=
 some (nw a0.Signed.lf a)
def zu (a0 : lm) (c : lf) : Option (mg × Bool) :=
 ((pW a0.lJ (fun (x : mg) => xq x c)).bind fun a => (if (decide (a < 0)) then some ((⟨(⟨(⟨0, (⟨zS, zS⟩ : lg), zS, (⟨zS, zS⟩ : lg), (⟨zS, zS⟩ : lg), zS⟩ : lf), []⟩ : Signed), (⟨0, 0, (⟨zS, zS⟩ : lg), []⟩ : Formula)⟩ : mg), false) else ((mZ a0.lJ a).bind fun b => some (b, true))))
def vn (a0 : List nQ) : Option (List nQ) :=
 ((ol 128 ([]) a0).bind fun a => some a)
def pg (f1 : nQ → Option Bool) : List nQ → Nat → Option Int
 | [], _ => some (-1)
 | c :: a, i47 => ((f1 c).bind fun b => (if b then some (i47 : Int) else (pg f1 a (i47 + 1))))
def ry (a0 : List nQ) (f1 : nQ → Option Bool) : Option Int :=
 pg f1 a0 0
def oW (f1 : nQ → Option Bool) : Nat → (List nQ) → Int → Int → Option (List nQ)
 | 0, _, _, _ => none
 | h + 1, b, a, c => (if (decide (c < (b.length : Int))) then ((((mZ b c).bind fun d => ((f1 d).bind fun i => (if (!i) then ((mZ b a).bind fun k => some ((b.set (Int.toNat a) d), (wi0 .i64 (a + 1)))) else some (b, a)))) : Option ((List nQ) × Int)).bind fun (g, j) => (oW f1 h g j (wi0 .i64 (c + 1)))) else ((rO (decide (0 ≤ a) && decide (a ≤ (b.length : Int)))).bind fun _ => ((rO (decide (0 ≤ a) && decide (a ≤ ((oZ b (Int.toNat a) (⟨(⟨zS, zS⟩ : lg), (⟨0, 0, (⟨zS, zS⟩ : lg), []⟩ : Formula), []⟩ : nQ)).length : Int)))).bind fun _ => some ((oZ b (Int.toNat a) (⟨(⟨zS, zS⟩ : lg), (⟨0, 0, (⟨zS, zS⟩ : lg), []⟩ : Formula), []⟩ : nQ)).take (Int.toNat a)))))
def sL (a0 : List nQ) (f1 : nQ → Option Bool) : Option (List nQ) :=
 ((ry a0 f1).bind fun a => (if (a == (-1)) then some a0 else oW f1 mq a0 a (wi0 .i64 (a + 1))))
def tk (a0 : nQ) (a : lf) : Option Bool :=
 ((qM a0.ns a).bind fun b => some (!b))
def yI (a0 : lm) (b : lf) : Option (List nQ) :=
 ((vn a0.mf).bind fun c => ((sL c (fun (x : nQ) => tk x b)).bind fun a => some a))
def qE (g : Int) (rec : Formula → Int → Option (Int × Int)) : List Formula → Int → Int → Option (Int × Int)
 | [], a, c => some (a, c)
 | h :: d, a, c => (if (decide (a > g)) then some (a, c) else ((rec h (wi0 .i64 (g - a))).bind fun b => (qE g rec d (wi0 .i64 (a + b.1)) (if b.2 > c then b.2 else c))))
def wy (rec : Formula → Int → Option (Int × Int)) (a0 : Formula) (c : Int) : Option (Int × Int) :=
 ((qE c rec a0.Kids 1 0).bind fun (a, b) => some (a, (wi0 .i64 (b + 1))))
def pC : Nat → Formula → Int → Option (Int × Int)
 | 0 => fun _ _ => none
 | n + 1 => wy (pC n)
def ya (a0 : Formula) : Option (Int × Int) :=
 ((pC mq a0 4096).bind fun a => (if (decide (a.1 > 4096)) then some (0, 0) else some (a.1, a.2)))
def xY (a0 : Formula) : Option Bool :=
 (if (a0.Op == 1) then ((pU a0.lg).bind fun d => ((if d then some ((a0.Kids.length : Int) == 0) else some false).bind fun g => ((if g then some (a0.K == 0) else some false).bind fun h => some h))) else ((if (a0.Op == 2) then some (a0.Op == 2) else some (a0.Op == 3)).bind fun i => (if i then ((if (lQ a0.lg (⟨zS, zS⟩ : lg)) then some (a0.K == 0) else some false).bind fun j => some j) else ((if (a0.Op == 4) then some (lQ a0.lg (⟨zS, zS⟩ : lg)) else some false).bind fun k => ((if k then some (decide (a0.K ≥ 0)) else some false).bind fun a => ((if a then some (decide (a0.K ≤ (a0.Kids.length : Int))) else some false).bind fun b => ((if b then some (decide ((a0.Kids.length : Int) ≥ 1)) else some false).bind fun c => some c)))))))
def oF (f1 : Formula → Option Bool) : List Formula → Nat → Option Int
 | [], _ => some (-1)
 | c :: a, i41 => ((f1 c).bind fun b => (if b then some (i41 : Int) else (oF f1 a (i41 + 1))))
def ua (a0 : List Formula) (f1 : Formula → Option Bool) : Option Int :=
 oF f1 a0 0
def pk (a0 : List Formula) (f1 : Formula → Option Bool) : Option Bool :=
 ((ua a0 f1).bind fun a => some (decide (a ≥ 0)))
def vi (rec : Formula → Option Bool) (a0 : Formula) : Option Bool :=
 ((rec a0).bind fun a => some (!a))
def wE (rec : Formula → Option Bool) (a0 : Formula) : Option Bool :=
 ((xY a0).bind fun c => ((if c then some (decide ((a0.Kids.length : Int) ≤ 8)) else some false).bind fun d => ((if d then ((pk a0.Kids (fun (x : Formula) => vi rec x)).bind fun a => some (!a)) else some false).bind fun b => some b)))
def sD : Nat → Formula → Option Bool
 | 0 => fun _ => none
 | n + 1 => wE (sD n)
def qj (a0 : Formula) : Option Bool :=
 ((ya a0).bind fun b => ((if (decide (b.1 ≥ 1)) then some (decide (b.1 ≤ 64)) else some false).bind fun g => ((if g then some (decide (b.2 ≤ 6)) else some false).bind fun c => ((if c then ((sD mq a0).bind fun a => some a) else some false).bind fun d => some d))))
def uB (a0 : Formula) (a : Int) : Option Bool :=
 ((if (a0.Op == a) then some ((a0.Kids.length : Int) == 0) else some false).bind fun x6 => some x6)
def zH  : Option Formula :=
 some (⟨2, 0, (⟨zS, zS⟩ : lg), []⟩ : Formula)
def Ao  : Option Formula :=
 some (⟨3, 0, (⟨zS, zS⟩ : lg), []⟩ : Formula)
def rK (a0 : Int) : List Formula → (List Formula) → Option (List Formula)
 | [], a => some a
 | b :: c, a => (if (b.Op == a0) then ((ol 72 a b.Kids).bind fun d => (rK a0 c d)) else ((ol 72 a ([b])).bind fun g => (rK a0 c g)))
def Bd (a0 : Int) (a : List Formula) : Option (List Formula) :=
 rK a0 a ([])
def rU (a0 : Formula) (a : Int) : Option Bool :=
 ((uB a0 a).bind fun b => some b)
def tz (a0 : List Formula) : Option (List Formula) :=
 ((ol 72 ([]) a0).bind fun a => some a)
def nt (o : Int) (f3 : (Formula × Formula) → Option Int) : Nat → (List Formula) → Int → Option (List Formula)
 | 0, _, _ => none
 | g + 1, b, a => ((if (decide (a > o)) then ((mZ b a).bind fun j => ((mZ b (wi0 .i64 (a - 1))).bind fun k => ((f3 (j, k)).bind fun h => some (decide (h < 0))))) else some false).bind fun i => (if i then ((mZ b (wi0 .i64 (a - 1))).bind fun d => ((mZ b a).bind fun c => ((mZ b a).bind fun l => ((mZ (b.set (Int.toNat a) d) (wi0 .i64 (a - 1))).bind fun n => (nt o f3 g ((b.set (Int.toNat a) d).set (Int.toNat (wi0 .i64 (a - 1))) (⟨c.Op, c.K, c.lg, c.Kids⟩ : Formula)) (wi0 .i64 (a - 1))))))) else some b))
def nc (a2 g : Int) (f3 : (Formula × Formula) → Option Int) : Nat → (List Formula) → Int → Option (List Formula)
 | 0, _, _ => none
 | d + 1, b, a => (if (decide (a < a2)) then ((nt g f3 mq b a).bind fun c => (nc a2 g f3 d c (wi0 .i64 (a + 1)))) else some b)
def ou (a0 : List Formula) (a a2 : Int) (f3 : (Formula × Formula) → Option Int) : Option (List Formula) :=
 nc a2 a f3 mq a0 (wi0 .i64 (a + 1))
def nH (a3 a2 g : Int) : Nat → (List Formula) → Int → Option (List Formula)
 | 0, _, _ => none
 | h + 1, b, a => (if (decide (a < a3)) then ((mZ b (wi0 .i64 (a2 + a))).bind fun d => ((mZ b (wi0 .i64 (g + a))).bind fun c => ((mZ b (wi0 .i64 (g + a))).bind fun i => ((mZ (b.set (Int.toNat (wi0 .i64 (g + a))) d) (wi0 .i64 (a2 + a))).bind fun j => (nH a3 a2 g h ((b.set (Int.toNat (wi0 .i64 (g + a))) d).set (Int.toNat (wi0 .i64 (a2 + a))) (⟨c.Op, c.K, c.lg, c.Kids⟩ : Formula)) (wi0 .i64 (a + 1))))))) else some b)
def oh (a0 : List Formula) (a a2 a3 : Int) (f4 : (Formula × Formula) → Option Int) : Option (List Formula) :=
 nH a3 a2 a mq a0 0
def nN (a2 : Int) (f4 : (Formula × Formula) → Option Int) : Nat → (List Formula) → Int → Int → Option (List Formula)
 | 0, _, _, _ => none
 | n185 + 1, c, a, b => (if (a != b) then (if (decide (a > b)) then ((oh c (wi0 .i64 (a2 - a)) a2 b f4).bind fun d => (nN a2 f4 n185 d (wi0 .i64 (a - b)) b)) else ((oh c (wi0 .i64 (a2 - a)) (wi0 .i64 ((wi0 .i64 (a2 + b)) - a)) a f4).bind fun g => (nN a2 f4 n185 g a (wi0 .i64 (b - a))))) else ((oh c (wi0 .i64 (a2 - a)) a2 a f4).bind fun h => some h))
def od (a0 : List Formula) (a a2 a3 : Int) (f4 : (Formula × Formula) → Option Int) : Option (List Formula) :=
 nN a2 f4 mq a0 (wi0 .i64 (a2 - a)) (wi0 .i64 (a3 - a2))
def nJ (g : Int) : Nat → (List Formula) → Int → Option (List Formula)
 | 0, _, _ => none
 | h + 1, b, a => (if (decide (a < (wi0 .i64 (g - 1)))) then ((mZ b (wi0 .i64 (a + 1))).bind fun d => ((mZ b a).bind fun c => ((mZ b a).bind fun i => ((mZ (b.set (Int.toNat a) d) (wi0 .i64 (a + 1))).bind fun j => (nJ g h ((b.set (Int.toNat a) d).set (Int.toNat (wi0 .i64 (a + 1))) (⟨c.Op, c.K, c.lg, c.Kids⟩ : Formula)) (wi0 .i64 (a + 1))))))) else some b)
def mU (a0 : List Formula) (i : Int) (f4 : (Formula × Formula) → Option Int) : Nat → Int → Int → Option (List Formula)
 | 0, _, _ => none
 | n325 + 1, a, b => (if (decide (a < b)) then ((mZ a0 (wi0 .i64 (Int.fdiv (IntKind.u64.wrap (wi0 .i64 (a + b))) (2 ^ min (Int.toNat 1) (IntKind.bits .u64))))).bind fun g => ((mZ a0 i).bind fun h => ((f4 (g, h)).bind fun d => (if (decide (d < 0)) then (mU a0 i f4 n325 (wi0 .i64 ((wi0 .i64 (Int.fdiv (IntKind.u64.wrap (wi0 .i64 (a + b))) (2 ^ min (Int.toNat 1) (IntKind.bits .u64)))) + 1)) b) else (mU a0 i f4 n325 a (wi0 .i64 (Int.fdiv (IntKind.u64.wrap (wi0 .i64 (a + b))) (2 ^ min (Int.toNat 1) (IntKind.bits .u64))))))))) else ((nJ a mq a0 i).bind fun c => some c))
def nI (d : Int) : Nat → (List Formula) → Int → Option (List Formula)
 | 0, _, _ => none
 | h + 1, b, a => (if (decide (a > d)) then ((mZ b (wi0 .i64 (a - 1))).bind fun g => ((mZ b a).bind fun c => ((mZ b a).bind fun i => ((mZ (b.set (Int.toNat a) g) (wi0 .i64 (a - 1))).bind fun j => (nI d h ((b.set (Int.toNat a) g).set (Int.toNat (wi0 .i64 (a - 1))) (⟨c.Op, c.K, c.lg, c.Kids⟩ : Formula)) (wi0 .i64 (a - 1))))))) else some b)
def mV (a0 : List Formula) (a2 : Int) (f4 : (Formula × Formula) → Option Int) : Nat → Int → Int → Option (List Formula)
 | 0, _, _ => none
 | c + 1, a, b => (if (decide (a < b)) then ((mZ a0 a2).bind fun h => ((mZ a0 (wi0 .i64 (Int.fdiv (IntKind.u64.wrap (wi0 .i64 (a + b))) (2 ^ min (Int.toNat 1) (IntKind.bits .u64))))).bind fun i => ((f4 (h, i)).bind fun g => (if (!(decide (g < 0))) then (mV a0 a2 f4 c (wi0 .i64 ((wi0 .i64 (Int.fdiv (IntKind.u64.wrap (wi0 .i64 (a + b))) (2 ^ min (Int.toNat 1) (IntKind.bits .u64)))) + 1)) b) else (mV a0 a2 f4 c a (wi0 .i64 (Int.fdiv (IntKind.u64.wrap (wi0 .i64 (a + b))) (2 ^ min (Int.toNat 1) (IntKind.bits .u64))))))))) else ((nI a mq a0 a2).bind fun d => some d))
def mF (a0 : List Formula) (c a3 a2 : Int) (f4 : (Formula × Formula) → Option Int) (rec : (List Formula) → Int → Int → Int → ((Formula × Formula) → Option Int) → Option (List Formula)) : Nat → Int → Int → Option (List Formula)
 | 0, _, _ => none
 | h + 1, a, b => (if (decide (a < b)) then ((mZ a0 (wi0 .i64 ((wi0 .i64 ((wi0 .i64 ((wi0 .i64 (Int.fdiv (IntKind.u64.wrap (wi0 .i64 (c + a3))) (2 ^ min (Int.toNat 1) (IntKind.bits .u64)))) + a2)) - 1)) - (wi0 .i64 (Int.fdiv (IntKind.u64.wrap (wi0 .i64 (a + b))) (2 ^ min (Int.toNat 1) (IntKind.bits .u64))))))).bind fun n => ((mZ a0 (wi0 .i64 (Int.fdiv (IntKind.u64.wrap (wi0 .i64 (a + b))) (2 ^ min (Int.toNat 1) (IntKind.bits .u64))))).bind fun o => ((f4 (n, o)).bind fun i => (if (!(decide (i < 0))) then (mF a0 c a3 a2 f4 rec h (wi0 .i64 ((wi0 .i64 (Int.fdiv (IntKind.u64.wrap (wi0 .i64 (a + b))) (2 ^ min (Int.toNat 1) (IntKind.bits .u64)))) + 1)) b) else (mF a0 c a3 a2 f4 rec h a (wi0 .i64 (Int.fdiv (IntKind.u64.wrap (wi0 .i64 (a + b))) (2 ^ min (Int.toNat 1) (IntKind.bits .u64))))))))) else ((((if (decide (a < a2)) then some (decide (a2 < (wi0 .i64 ((wi0 .i64 ((wi0 .i64 (Int.fdiv (IntKind.u64.wrap (wi0 .i64 (c + a3))) (2 ^ min (Int.toNat 1) (IntKind.bits .u64)))) + a2)) - a)))) else some false).bind fun s => (if s then ((od a0 a a2 (wi0 .i64 ((wi0 .i64 ((wi0 .i64 (Int.fdiv (IntKind.u64.wrap (wi0 .i64 (c + a3))) (2 ^ min (Int.toNat 1) (IntKind.bits .u64)))) + a2)) - a)) f4).bind fun l => some l) else some a0)) : Option (List Formula)).bind fun d => ((((if (decide (c < a)) then some (decide (a < (wi0 .i64 (Int.fdiv (IntKind.u64.wrap (wi0 .i64 (c + a3))) (2 ^ min (Int.toNat 1) (IntKind.bits .u64)))))) else some false).bind fun r => (if r then ((rec d c a (wi0 .i64 (Int.fdiv (IntKind.u64.wrap (wi0 .i64 (c + a3))) (2 ^ min (Int.toNat 1) (IntKind.bits .u64)))) f4).bind fun k => some k) else some d)) : Option (List Formula)).bind fun g => ((if (decide ((wi0 .i64 (Int.fdiv (IntKind.u64.wrap (wi0 .i64 (c + a3))) (2 ^ min (Int.toNat 1) (IntKind.bits .u64)))) < (wi0 .i64 ((wi0 .i64 ((wi0 .i64 (Int.fdiv (IntKind.u64.wrap (wi0 .i64 (c + a3))) (2 ^ min (Int.toNat 1) (IntKind.bits .u64)))) + a2)) - a)))) then some (decide ((wi0 .i64 ((wi0 .i64 ((wi0 .i64 (Int.fdiv (IntKind.u64.wrap (wi0 .i64 (c + a3))) (2 ^ min (Int.toNat 1) (IntKind.bits .u64)))) + a2)) - a)) < a3)) else some false).bind fun q => (if q then ((rec g (wi0 .i64 (Int.fdiv (IntKind.u64.wrap (wi0 .i64 (c + a3))) (2 ^ min (Int.toNat 1) (IntKind.bits .u64)))) (wi0 .i64 ((wi0 .i64 ((wi0 .i64 (Int.fdiv (IntKind.u64.wrap (wi0 .i64 (c + a3))) (2 ^ min (Int.toNat 1) (IntKind.bits .u64)))) + a2)) - a)) a3 f4).bind fun j => some j) else some g)))))
def qm (rec : (List Formula) → Int → Int → Int → ((Formula × Formula) → Option Int) → Option (List Formula)) (a0 : List Formula) (a a2 a3 : Int) (f4 : (Formula × Formula) → Option Int) : Option (List Formula) :=
 (if ((wi0 .i64 (a2 - a)) == 1) then mU a0 a f4 mq a2 a3 else (if ((wi0 .i64 (a3 - a2)) == 1) then mV a0 a2 f4 mq a a2 else (((if (decide (a2 > (wi0 .i64 (Int.fdiv (IntKind.u64.wrap (wi0 .i64 (a + a3))) (2 ^ min (Int.toNat 1) (IntKind.bits .u64)))))) then some ((wi0 .i64 ((wi0 .i64 ((wi0 .i64 (Int.fdiv (IntKind.u64.wrap (wi0 .i64 (a + a3))) (2 ^ min (Int.toNat 1) (IntKind.bits .u64)))) + a2)) - a3)), (wi0 .i64 (Int.fdiv (IntKind.u64.wrap (wi0 .i64 (a + a3))) (2 ^ min (Int.toNat 1) (IntKind.bits .u64))))) else some (a, a2)) : Option (Int × Int)).bind fun (b, c) => mF a0 a a3 a2 f4 rec mq b c)))
def nh : Nat → (List Formula) → Int → Int → Int → ((Formula × Formula) → Option Int) → Option (List Formula)
 | 0 => fun _ _ _ _ _ => none
 | n + 1 => qm (nh n)
def nL (i b : Int) (f2 : (Formula × Formula) → Option Int) : Nat → (List Formula) → Int → Int → Option ((List Formula) × Int)
 | 0, _, _, _ => none
 | g + 1, d, c, a => (if (decide (a ≤ i)) then ((nh mq d c (wi0 .i64 (c + b)) a f2).bind fun h => (nL i b f2 g h a (wi0 .i64 (a + (wi0 .i64 (2 * b)))))) else some (d, c))
def nB (j : Int) (f2 : (Formula × Formula) → Option Int) : Nat → (List Formula) → Int → Option (List Formula)
 | 0, _, _ => none
 | h + 1, c, a => (if (decide (a < j)) then ((nL j a f2 mq c 0 (wi0 .i64 (2 * a))).bind fun (d, b) => (((if (decide ((wi0 .i64 (b + a)) < j)) then ((nh mq d b (wi0 .i64 (b + a)) j f2).bind fun i => some i) else some d) : Option (List Formula)).bind fun g => (nB j f2 h g (wi0 .i64 (a * 2))))) else some c)
def nC (i : Int) (f2 : (Formula × Formula) → Option Int) : Nat → (List Formula) → Int → Int → Option (List Formula)
 | 0, _, _, _ => none
 | n123 + 1, c, h, a => (if (decide (a ≤ i)) then ((ou c h a f2).bind fun d => (nC i f2 n123 d a (wi0 .i64 (a + 20)))) else ((ou c h i f2).bind fun g => ((nB i f2 mq g 20).bind fun b => some b)))
def su (a0 : List Formula) (a : Int) (f2 : (Formula × Formula) → Option Int) : Option (List Formula) :=
 nC a f2 mq a0 0 20
def pX (a0 : List Formula) (f1 : (Formula × Formula) → Option Int) : Option (List Formula) :=
 ((su a0 (a0.length : Int) f1).bind fun a => some a)
def rL (rec : (List Int) → Formula → Option (List Int)) : List Formula → (List Int) → Option (List Int)
 | [], a => some a
 | d :: b, a => ((rec a d).bind fun c => (rL rec b c))
def wL (rec : (List Int) → Formula → Option (List Int)) (b : List Int) (a : Formula) : Option (List Int) :=
 ((pn b a.Op).bind fun h => (if (a.Op == 1) then ((rn h.2 a.lg).bind fun g => some g.2) else (((if (a.Op == 4) then ((pn h.2 a.K).bind fun c => some c.2) else some h.2) : Option (List Int)).bind fun d => ((pn d (a.Kids.length : Int)).bind fun i => rL rec a.Kids i.2))))
def qU : Nat → (List Int) → Formula → Option (List Int)
 | 0 => fun _ _ => none
 | n + 1 => wL (qU n)
def xu (a : List Int) (b : Formula) : Option (Bool × (List Int)) :=
 ((qj b).bind fun c => (if (!c) then some (false, a) else ((qU mq a b).bind fun d => some (true, d))))
def uk (a0 : Formula) : Option (List Int) :=
 ((xu ([]) a0).bind fun b => ((uN b.2).bind fun a => some a))
def uj (a0 d : Formula) : Option Int :=
 ((uk a0).bind fun a => ((uk d).bind fun b => ((xw a b).bind fun c => some c)))
def vY (a0 : List Formula) : Option (List Formula) :=
 ((tz a0).bind fun b => ((pX b (fun (x : (Formula × Formula)) => uj x.1 x.2)).bind fun a => some a))
def nX (b : Int) (f1 : (Formula × Formula) → Option Bool) : Nat → (List Formula) → Int → Int → Option ((List Formula) × Int)
 | 0, _, _, _ => none
 | h + 1, a, c, d => (if (decide (d < ((a.length - (Int.toNat b) : Nat) : Int))) then ((((mZ (a.drop (Int.toNat b)) d).bind fun k => ((mZ (a.drop (Int.toNat b)) (wi0 .i64 (d - 1))).bind fun l => ((f1 (k, l)).bind fun i => (if (!i) then ((mZ (a.drop (Int.toNat b)) d).bind fun n => ((mZ a c).bind fun o => some ((a.set (Int.toNat c) n), (wi0 .i64 (c + 1))))) else some (a, c))))) : Option ((List Formula) × Int)).bind fun (g, j) => (nX b f1 h g j (wi0 .i64 (d + 1)))) else some (a, c))
def nV (a0 : List Formula) (f1 : (Formula × Formula) → Option Bool) : Nat → Int → Option (List Formula)
 | 0, _ => none
 | d + 1, a => (if (decide (a < (a0.length : Int))) then ((mZ a0 a).bind fun h => ((mZ a0 (wi0 .i64 (a - 1))).bind fun i => ((f1 (h, i)).bind fun g => (if g then ((rO (decide (0 ≤ a) && decide (a ≤ (a0.length : Int)))).bind fun _ => ((nX a f1 mq a0 a 1).bind fun (c, b) => ((rO (decide (0 ≤ b) && decide (b ≤ (c.length : Int)))).bind fun _ => ((rO (decide (0 ≤ b) && decide (b ≤ ((oZ c (Int.toNat b) (⟨0, 0, (⟨zS, zS⟩ : lg), []⟩ : Formula)).length : Int)))).bind fun _ => some ((oZ c (Int.toNat b) (⟨0, 0, (⟨zS, zS⟩ : lg), []⟩ : Formula)).take (Int.toNat b)))))) else (nV a0 f1 d (wi0 .i64 (a + 1))))))) else some a0)
def qJ (a0 : List Formula) (f1 : (Formula × Formula) → Option Bool) : Option (List Formula) :=
 (if (decide ((a0.length : Int) < 2)) then some a0 else nV a0 f1 mq 1)
def mT (g : List Formula) (f2 : (Formula × Formula) → Option Bool) : List Formula → Nat → Option Bool
 | [], _ => some true
 | d :: c, i95 => ((mZ g (i95 : Int)).bind fun b => ((f2 (d, b)).bind fun a => (if (!a) then some false else (mT g f2 c (i95 + 1)))))
def nW (a0 a : List Formula) (f2 : (Formula × Formula) → Option Bool) : Option Bool :=
 (if ((a0.length : Int) != (a.length : Int)) then some false else mT a f2 a0 0)
def xj (rec : Formula → Formula → Option Bool) (a0 a : Formula) : Option Bool :=
 ((if (a0.Op == a.Op) then some (a0.K == a.K) else some false).bind fun c => ((if c then some (lQ a0.lg a.lg) else some false).bind fun d => ((if d then ((nW a0.Kids a.Kids (fun (x : (Formula × Formula)) => rec x.1 x.2)).bind fun b => some b) else some false).bind fun g => some g)))
def pu : Nat → Formula → Formula → Option Bool
 | 0 => fun _ _ => none
 | n + 1 => xj (pu n)
def py (a0 : mu) (c : Int) (a2 : List Formula) : Option (Formula × mu) :=
 ((Bd c a2).bind fun i => ((pk i (fun (x : Formula) => rU x (wi0 .i64 (5 - c)))).bind fun d => (if d then some ((⟨(wi0 .i64 (5 - c)), 0, (⟨zS, zS⟩ : lg), []⟩ : Formula), a0) else ((vY i).bind fun g => ((qJ g (fun (x : (Formula × Formula)) => pu mq x.1 x.2)).bind fun a => (((if (decide ((a.length : Int) > 64)) then some (⟨12⟩ : mu) else some a0) : Option mu).bind fun b => (if ((a.length : Int) == 1) then ((mZ a 0).bind fun h => some (h, b)) else some ((⟨c, 0, (⟨zS, zS⟩ : lg), a⟩ : Formula), b))))))))
def nU (a0 : mu) : List Formula → Int → (List Formula) → Option (Formula × mu)
 | [], b, a => (if (decide (b ≤ 0)) then (zH.bind fun l => some (l, a0)) else (if (decide (b > (a.length : Int))) then (Ao.bind fun n => some (n, a0)) else (if (b == (a.length : Int)) then ((py a0 2 a).bind fun g => some (g.1, g.2)) else (if (b == 1) then ((py a0 3 a).bind fun h => some (h.1, h.2)) else ((vY a).bind fun o => some ((⟨4, b, (⟨zS, zS⟩ : lg), o⟩ : Formula), a0))))))
 | d :: c, b, a => ((uB d 2).bind fun j => (if j then (nU a0 c (wi0 .i64 (b - 1)) a) else ((uB d 3).bind fun k => (if (!k) then ((ol 72 a ([d])).bind fun i => (nU a0 c b i)) else (nU a0 c b a)))))
def rW (a0 : mu) (a : Int) (a2 : List Formula) : Option (Formula × mu) :=
 nU a0 a2 a ([])
def oX (rec : mu → Formula → Option (Formula × mu)) (k : Formula) : List Formula → (List Formula) → mu → Option (Formula × mu)
 | [], a, b => (if (k.Op == 4) then ((rW b k.K a).bind fun d => some (d.1, d.2)) else ((py b k.Op a).bind fun g => some (g.1, g.2)))
 | j :: h, a, b => ((rec b j).bind fun c => ((ol 72 a ([c.1])).bind fun i => (oX rec k h i c.2)))
def tj (rec : mu → Formula → Option (Formula × mu)) (a0 : mu) (a : Formula) : Option (Formula × mu) :=
 (if (a.Op == 1) then some (a, a0) else oX rec a a.Kids ([]) a0)
def oA : Nat → mu → Formula → Option (Formula × mu)
 | 0 => fun _ _ => none
 | n + 1 => tj (oA n)
def yx (a0 : Formula) : Option (Formula × Int) :=
 ((qj a0).bind fun d => (if (!d) then some ((⟨0, 0, (⟨zS, zS⟩ : lg), []⟩ : Formula), 11) else ((oA mq (⟨0⟩ : mu) a0).bind fun a => ((if (a.2.e != 0) then some true else ((qj a.1).bind fun b => some (!b))).bind fun c => (if c then some ((⟨0, 0, (⟨zS, zS⟩ : lg), []⟩ : Formula), 12) else some (a.1, 0))))))
def yG (a0 b : Formula) : Option (Formula × Int) :=
 ((yx (⟨2, 0, (⟨zS, zS⟩ : lg), [a0, b]⟩ : Formula)).bind fun a => some (a.1, a.2))
def uz  : List Formula → Int → Int → Int → lg → (List Formula) → Option (Int × Int × Int × lg × (List Formula))
 | [], c, d, g, h, b => some (c, d, g, h, b)
 | j :: i, c, d, g, h, b => (if (c != 0) then some (c, d, g, h, b) else ((yG (⟨d, g, h, b⟩ : Formula) j).bind fun a => (uz i a.2 ((a.1).Op) ((a.1).K) ((a.1).lg) ((a.1).Kids))))
def xc (a0 : List Formula) : Option (Formula × Int) :=
 ((mZ a0 0).bind fun x6 => ((yx x6).bind fun a => ((rO (decide (0 ≤ 1) && decide (1 ≤ (a0.length : Int)))).bind fun _ => ((uz (a0.drop (Int.toNat 1)) a.2 ((a.1).Op) ((a.1).K) ((a.1).lg) ((a.1).Kids)).bind fun (b, d, g, h, c) => (if (b != 0) then some ((⟨0, 0, (⟨zS, zS⟩ : lg), []⟩ : Formula), b) else some ((⟨d, g, h, c⟩ : Formula), 0))))))
def vc  : List nQ → (List Formula) → Option (Formula × Int)
 | [], a => ((xc a).bind fun b => some (b.1, b.2))
 | g :: c, a => ((ol 72 a ([g.ly])).bind fun d => (vc c d))
def wN (a0 : lm) (c : lf) : Option (Formula × Int) :=
 ((zu a0 c).bind fun a => (if (!a.2) then some ((⟨0, 0, (⟨zS, zS⟩ : lg), []⟩ : Formula), 42) else ((yI a0 c).bind fun b => vc b ([(a.1).ly]))))
def qD (rec : Formula → (lg → Option Bool) → Option Bool) (f1 : lg → Option Bool) (a0 : Formula) : List Formula → Int → Option Bool
 | [], a => (if (a0.Op == 2) then some (a == (a0.Kids.length : Int)) else (if (a0.Op == 3) then some (decide (a > 0)) else some (decide (a ≥ a0.K))))
 | d :: b, a => ((rec d f1).bind fun c => (if c then (qD rec f1 a0 b (wi0 .i64 (a + 1))) else (qD rec f1 a0 b a)))
def wC (rec : Formula → (lg → Option Bool) → Option Bool) (a0 : Formula) (f1 : lg → Option Bool) : Option Bool :=
 (if (a0.Op == 1) then ((f1 a0.lg).bind fun a => some a) else qD rec f1 a0 a0.Kids 0)
def qW : Nat → Formula → (lg → Option Bool) → Option Bool
 | 0 => fun _ _ => none
 | n + 1 => wC (qW n)
def tf (a0 : Formula) (f1 : lg → Option Bool) : Option Bool :=
 ((qj a0).bind fun c => ((if c then ((qW mq a0 f1).bind fun a => some a) else some false).bind fun b => some b))
def tU (a0 : lg) (g : List (lg × (List (ByteArray × Bool)))) (a : List lf) (d : List (lg × (List lf))) (b : List (ByteArray × (List lf))) (c : List lF) (h : Int) (c1 : ByteArray) : Option Bool :=
 ((tb g a d b c h a0 c1).bind fun i => some i)
def sr (a0 : lm) (c : ((List (lg × (List (ByteArray × Bool)))) × (List lf) × (List (lg × (List lf))) × (List (ByteArray × (List lf))) × (List lF) × Int × ByteArray)) : List mg → (List lf) → Option (List lf)
 | [], a => ((pM a).bind fun i => some i)
 | d :: b, a => ((wN a0 d.Signed.lf).bind fun r417 => ((if (r417.2 == 0) then ((tf r417.1 (fun (x : lg) => tU x c.1 c.2.1 c.2.2.1 c.2.2.2.1 c.2.2.2.2.1 c.2.2.2.2.2.1 c.2.2.2.2.2.2)).bind fun h => some h) else some false).bind fun j => (if j then ((ol 136 a ([d.Signed.lf])).bind fun g => (sr a0 c b g)) else (sr a0 c b a))))
def tK (a0 : lm) (a : List lf) (a2 : ByteArray) : Option (List lf) :=
 ((zI a a2).bind fun b => sr a0 b a0.lJ ([]))
def CT (a0 j : lm) : Nat → (List lf) → (List lf) → Int → Option ((List lf) × (List lf) × Int)
 | 0, _, _, _ => none
 | h + 1, a, b, g => ((tK a0 b j.Name).bind fun c => ((tK j a a0.Name).bind fun d => ((if ((c.length : Int) == (a.length : Int)) then some ((d.length : Int) == (b.length : Int)) else some false).bind fun i => (if i then some (a, b, g) else (CT a0 j h c d (wi0 .i64 (g + 1)))))))
def KG (a0 a : lm) : Option ((List lf) × (List lf) × Int) :=
 CT a0 a mq ([]) ([]) 0
def ta (rec : (List Formula) → Option Int) : List Formula → Int → Option Int
 | [], b => some b
 | a :: d, b => ((rec a.Kids).bind fun c => (ta rec d (wi0 .i64 (b + (wi0 .i64 ((wi0 .i64 (1 + (wi0 .i64 (Int.tdiv (wi0 .i64 ((a.lg.lh.size : Int) + (a.lg.lp.size : Int))) 16)))) + c))))))
def xB (rec : (List Formula) → Option Int) (a0 : List Formula) : Option Int :=
 ta rec a0 0
def qH : Nat → (List Formula) → Option Int
 | 0 => fun _ => none
 | n + 1 => xB (qH n)
def te  : List nQ → Int → Option Int
 | [], b => some b
 | a :: c, b => ((qH mq ([a.ly])).bind fun d => ((po a.ns).bind fun g => (te c (wi0 .i64 (b + (wi0 .i64 ((wi0 .i64 ((wi0 .i64 ((a.lg.lh.size : Int) + (a.lg.lp.size : Int))) + (wi0 .i64 (20 * d)))) + g)))))))
def sW (a0 : lm) : List mg → Int → Option Int
 | [], a => ((te a0.mf a).bind fun c => some c)
 | b :: d, a => ((((rD ([]) ([b.Signed])).bind fun i => some (i, ([b.ly]))) : Option (Int × (List Formula))).bind fun (j, g) => ((qH mq g).bind fun h => (sW a0 d (wi0 .i64 (a + (wi0 .i64 (j + (wi0 .i64 (20 * h)))))))))
def yO (a0 : lm) : Option Int :=
 sW a0 a0.lJ (a0.Name.size : Int)
def IN (a0 c : lm) : Option ((List lf) × (List (lg × (List (ByteArray × Bool)))) × (List lf) × (List (lg × (List lf))) × (List (ByteArray × (List lf))) × (List lF) × Int × ByteArray) :=
 ((KG a0 c).bind fun b => ((wB b.2.1).bind fun a => some (b.2.1, a.1, a.2.1, a.2.2.1, a.2.2.2.1, a.2.2.2.2.1, a.2.2.2.2.2, c.Name)))
def Gq (a0 : lg) (g : List (lg × (List (ByteArray × Bool)))) (a : List lf) (d : List (lg × (List lf))) (b : List (ByteArray × (List lf))) (c : List lF) (i : Int) (h : ByteArray) (j : List mg) (k : List nQ) : Option Bool :=
 ((tb g a d b c i a0 h).bind fun l => some l)
def Hu (a0 b : lm) (a2 : Formula) : Option Bool :=
 ((IN a0 b).bind fun a => ((tf a2 (fun (x : lg) => Gq x a.2.1 a.2.2.1 a.2.2.2.1 a.2.2.2.2.1 a.2.2.2.2.2.1 a.2.2.2.2.2.2.1 a.2.2.2.2.2.2.2 b.lJ b.mf)).bind fun c => some c))
def rX (a0 : List nQ) (f1 : nQ → Option Bool) : Option Bool :=
 ((ry a0 f1).bind fun a => some (decide (a ≥ 0)))
def xo (a0 : nQ) : Option Bool :=
 some (decide ((a0.ns.length : Int) > 32))
def zQ (a0 : lm) : Option Bool :=
 ((if (decide ((a0.lJ.length : Int) > 256)) then some true else some (decide ((a0.mf.length : Int) > 8))).bind fun x8 => ((if x8 then some true else ((rX a0.mf (fun (x : nQ) => xo x)).bind fun a => some a)).bind fun b => some b))
def ri (d : List lf) : List lf → Nat → Option Bool
 | [], _ => some true
 | c :: b, i90 => ((mZ d (i90 : Int)).bind fun a => (if (!(nw c a)) then some false else (ri d b (i90 + 1))))
def qe (a0 a : List lf) : Option Bool :=
 (if ((a0.length : Int) != (a.length : Int)) then some false else ri a a0 0)
def vS (a0 : List lf) : Option Bool :=
 ((pM a0).bind fun b => ((qe b a0).bind fun a => some a))
def sT  : List mg → (List lf) → Option Bool
 | [], a => ((vS a).bind fun h => some h)
 | b :: c, a => ((if ((b.Signed.Tag.length : Int) != 8) then some true else ((qj b.ly).bind fun g => some (!g))).bind fun i => (if i then some false else ((ol 136 a ([b.Signed.lf])).bind fun d => (sT c d))))
def Bc (a0 : lm) : Option Bool :=
 sT a0.lJ ([])
def tZ (a0 : List nQ) : List nQ → Nat → Option Bool
 | [], _ => some true
 | a :: c, b => ((pU a.lg).bind fun d => ((if (!d) then some true else ((qj a.ly).bind fun i => some (!i))).bind fun j => ((if j then some true else ((vS a.ns).bind fun h => some (!h))).bind fun k => ((if k then some true else ((if (decide ((b : Int) > 0)) then ((mZ a0 (wi0 .i64 ((b : Int) - 1))).bind fun o => ((oV o.lg a.lg).bind fun g => some (decide (g ≥ 0)))) else some false).bind fun n => some n)).bind fun l => (if l then some false else (tZ a0 c (b + 1)))))))
def BD (a0 : List nQ) : Option Bool :=
 tZ a0 a0 0
def qu (a0 : List mg) (f1 : mg → Option Bool) : Option Bool :=
 ((pW a0 f1).bind fun a => some (decide (a ≥ 0)))
def vI (a0 : mg) (c : ByteArray) (a : List mg) (b : List nQ) : Option Bool :=
 ((wN (⟨c, a, b⟩ : lm) a0.Signed.lf).bind fun d => some (d.2 != 0))
def xT (a0 : lm) : Option Bool :=
 ((qu a0.lJ (fun (x : mg) => vI x a0.Name a0.lJ a0.mf)).bind fun a => some (!a))
def wT (a0 : lm) : Option Int :=
 ((pT a0.Name).bind fun i => (if (!i) then some 30 else ((zQ a0).bind fun a => (if a then some 12 else ((Bc a0).bind fun b => ((if (!b) then some true else ((BD a0.mf).bind fun d => some (!d))).bind fun g => ((if g then some true else ((xT a0).bind fun c => some (!c))).bind fun h => (if h then some 11 else some 0))))))))
def xD (a0 : lm) (g : ByteArray) (a2 : Int) : Option (mY × Int) :=
 ((wT a0).bind fun c => (((if (c != 0) then some c else ((pT g).bind fun b => (if (!b) then some 30 else ((if (decide (a2 < 0)) then some true else some (decide (a2 > 256))).bind fun d => (if d then some 2 else some c))))) : Option Int).bind fun a => (if (a != 0) then some ((⟨(⟨zS, [], []⟩ : lm), zS, 0, [], [], [], []⟩ : mY), a) else some ((⟨a0, g, a2, [], [], [], []⟩ : mY), 0))))
def xV (a0 : lf) (d : ByteArray) (b : List mg) (c : List nQ) (j : ByteArray) (k : Int) (g a : List lf) (h i : List lg) : Option Bool :=
 ((qM a a0).bind fun l => some l)
def yB (a0 : mY) : Option (List lf) :=
 ((tK a0.lm a0.lE a0.mx).bind fun a => ((qy a (fun (x : lf) => xV x a0.lm.Name a0.lm.lJ a0.lm.mf a0.mx a0.Room a0.lE a0.Shown a0.lT a0.mH)).bind fun b => some b))
def uE (c : lf) : List mg → Option (Signed × Bool)
 | [] => some ((⟨(⟨0, (⟨zS, zS⟩ : lg), zS, (⟨zS, zS⟩ : lg), (⟨zS, zS⟩ : lg), zS⟩ : lf), []⟩ : Signed), false)
 | a :: b => (if (nw a.Signed.lf c) then some (a.Signed, true) else (uE c b))
def yy (a0 : lm) (a : lf) : Option (Signed × Bool) :=
 uE a a0.lJ
def vo (a0 : mY) : Option ((List (lg × (List (ByteArray × Bool)))) × (List lf) × (List (lg × (List lf))) × (List (ByteArray × (List lf))) × (List lF) × Int × ByteArray × ByteArray × Int) :=
 ((wB a0.lE).bind fun a => some (a.1, a.2.1, a.2.2.1, a.2.2.2.1, a.2.2.2.2.1, a.2.2.2.2.2, a0.lm.Name, a0.mx, a0.Room))
def qF (a0 : lg) (h : List (lg × (List (ByteArray × Bool)))) (a : List lf) (d : List (lg × (List lf))) (b : List (ByteArray × (List lf))) (c : List lF) (n : Int) (j : ByteArray) (g : List mg) (i : List nQ) (k : ByteArray) (s : Int) (l r : List lf) (o q : List lg) : Option Bool :=
 ((tb h a d b c n a0 k).bind fun t => some t)
def vr (a0 : mY) (g : lf) : Option Bool :=
 ((wN a0.lm g).bind fun b => ((if (b.2 == 0) then ((vo a0).bind fun a => ((tf b.1 (fun (x : lg) => qF x a.1 a.2.1 a.2.2.1 a.2.2.2.1 a.2.2.2.2.1 a.2.2.2.2.2.1 a.2.2.2.2.2.2.1 a0.lm.lJ a0.lm.mf a.2.2.2.2.2.2.2.1 a.2.2.2.2.2.2.2.2 a0.lE a0.Shown a0.lT a0.mH)).bind fun c => some c)) else some false).bind fun d => some d))
def oD (a0 : mY) : List lf → Option (Int ⊕ Unit)
 | [] => some (Sum.inr ())
 | c :: a => ((vr a0 c).bind fun b => (if (!b) then some (Sum.inl 44) else (oD a0 a)))
def ov (a0 : mY) (g : List lf) : List lf → Option Int
 | [] => ((oD a0 g).bind fun s => match s with | .inl b => some b | .inr _ => some 0)
 | d :: a => ((yy a0.lm d).bind fun c => (if (!c.2) then some 42 else (ov a0 g a)))
def vP (a0 : mY) (a : List lf) : Option Int :=
 (if (decide ((a.length : Int) > 8)) then some 12 else ov a0 a a)
def sR (a0 : List Int) : Option (List Int) :=
 ((ol 1 ([]) a0).bind fun a => some a)
def tu (b : Int) : Option (List lf) :=
 (if (decide (b < 0)) then none else (((if (decide ((wi0 .i64 (b - (wi0 .i64 (0 - 0)))) > 0)) then ((HF 136 (⟨0, (⟨zS, zS⟩ : lg), zS, (⟨zS, zS⟩ : lg), (⟨zS, zS⟩ : lg), zS⟩ : lf) (wi0 .i64 (b - (wi0 .i64 (0 - 0))))).bind fun a => ((rO (decide (0 ≤ 0) && decide (0 ≤ (a.length : Int)))).bind fun _ => some (a.take (Int.toNat 0)))) else some ([])) : Option (List lf)).bind fun c => some c))
def pG  : List (List lf) → (List lf) → Option (List lf)
 | [], a => some a
 | d :: b, a => ((ol 136 a d).bind fun c => (pG b c))
def pJ (a0 : List (List lf)) : List (List lf) → Int → Option (List lf)
 | [], a => ((tu a).bind fun g => ((pG a0 g).bind fun b => some b))
 | c :: d, a => (if (decide ((wi0 .i64 (a + (c.length : Int))) < 0)) then none else (pJ a0 d (wi0 .i64 (a + (c.length : Int)))))
def qI (a0 : List (List lf)) : Option (List lf) :=
 pJ a0 a0 0
def oP (a0 : mY) (r : List lf) : List lf → (List Signed) → Option ((List Signed) × Int × mY)
 | [], a => ((qI ([a0.Shown, r])).bind fun h => ((pM h).bind fun i => some (a, 0, (⟨(⟨a0.lm.Name, a0.lm.lJ, a0.lm.mf⟩ : lm), a0.mx, a0.Room, a0.lE, i, a0.lT, a0.mH⟩ : mY))))
 | l :: k, a => ((((yy a0.lm l).bind fun b => some (((b.1).lf), ((b.1).Tag), b.2, (⟨0, (⟨zS, zS⟩ : lg), zS, (⟨zS, zS⟩ : lg), (⟨zS, zS⟩ : lg), zS⟩ : lf), ([]))) : Option (lf × (List Int) × Bool × lf × (List Int))).bind fun (j, c, o, q, n) => ((sR c).bind fun g => ((ol 160 a ([(⟨j, g⟩ : Signed)])).bind fun d => (oP a0 r k d))))
def oz (a0 : mY) (a : List lf) : Option ((List Signed) × Int × mY) :=
 ((vP a0 a).bind fun b => (if (b != 0) then some ([], b, a0) else ((pM a).bind fun c => oP a0 a c ([]))))
def tg  : List lg → Int → Option Int
 | [], a => some a
 | b :: c, a => (tg c (wi0 .i64 (a + (wi0 .i64 ((wi0 .i64 (5 + (b.lh.size : Int))) + (b.lp.size : Int))))))
def yJ (a0 : mY) : Option Int :=
 ((yO a0.lm).bind fun c => ((po a0.lE).bind fun d => ((po a0.Shown).bind fun g => ((ol 32 ([]) a0.lT).bind fun a => ((ol 32 a a0.mH).bind fun b => tg b (wi0 .i64 ((wi0 .i64 ((wi0 .i64 (c + (a0.mx.size : Int))) + d)) + g)))))))
def sM (a0 : List lg) : Option (List lg) :=
 ((ol 32 ([]) a0).bind fun a => some a)
def pS (f1 : lg → Option Bool) : List lg → Nat → Option Int
 | [], _ => some (-1)
 | c :: a, i35 => ((f1 c).bind fun b => (if b then some (i35 : Int) else (pS f1 a (i35 + 1))))
def uX (a0 : List lg) (f1 : lg → Option Bool) : Option Int :=
 pS f1 a0 0
def oS (f1 : lg → Option Bool) : Nat → (List lg) → Int → Int → Option (List lg)
 | 0, _, _, _ => none
 | n321 + 1, b, a, c => (if (decide (c < (b.length : Int))) then ((((mZ b c).bind fun d => ((f1 d).bind fun h => (if (!h) then ((mZ b a).bind fun j => some ((b.set (Int.toNat a) d), (wi0 .i64 (a + 1)))) else some (b, a)))) : Option ((List lg) × Int)).bind fun (g, i) => (oS f1 n321 g i (wi0 .i64 (c + 1)))) else ((rO (decide (0 ≤ a) && decide (a ≤ (b.length : Int)))).bind fun _ => ((rO (decide (0 ≤ a) && decide (a ≤ ((oZ b (Int.toNat a) (⟨zS, zS⟩ : lg)).length : Int)))).bind fun _ => some ((oZ b (Int.toNat a) (⟨zS, zS⟩ : lg)).take (Int.toNat a)))))
def sd (a0 : List lg) (f1 : lg → Option Bool) : Option (List lg) :=
 ((uX a0 f1).bind fun a => (if (a == (-1)) then some a0 else oS f1 mq a0 a (wi0 .i64 (a + 1))))
def yK (a0 : lg) : Option Bool :=
 ((pU a0).bind fun a => some (!a))
def pt (b : Int) : Nat → (List lg) → Int → Int → Option ((List lg) × Int)
 | 0, _, _, _ => none
 | h + 1, a, c, d => (if (decide (d < ((a.length - (Int.toNat b) : Nat) : Int))) then ((((mZ (a.drop (Int.toNat b)) d).bind fun j => ((mZ (a.drop (Int.toNat b)) (wi0 .i64 (d - 1))).bind fun k => (if (!(lQ j k)) then ((mZ (a.drop (Int.toNat b)) d).bind fun l => ((mZ a c).bind fun n => some ((a.set (Int.toNat c) l), (wi0 .i64 (c + 1))))) else some (a, c)))) : Option ((List lg) × Int)).bind fun (g, i) => (pt b h g i (wi0 .i64 (d + 1)))) else some (a, c))
def pA (a0 : List lg) : Nat → Int → Option (List lg)
 | 0, _ => none
 | d + 1, a => (if (decide (a < (a0.length : Int))) then ((mZ a0 a).bind fun g => ((mZ a0 (wi0 .i64 (a - 1))).bind fun h => (if (lQ g h) then ((rO (decide (0 ≤ a) && decide (a ≤ (a0.length : Int)))).bind fun _ => ((pt a mq a0 a 1).bind fun (c, b) => ((rO (decide (0 ≤ b) && decide (b ≤ (c.length : Int)))).bind fun _ => ((rO (decide (0 ≤ b) && decide (b ≤ ((oZ c (Int.toNat b) (⟨zS, zS⟩ : lg)).length : Int)))).bind fun _ => some ((oZ c (Int.toNat b) (⟨zS, zS⟩ : lg)).take (Int.toNat b)))))) else (pA a0 d (wi0 .i64 (a + 1)))))) else some a0)
def tX (a0 : List lg) : Option (List lg) :=
 (if (decide ((a0.length : Int) < 2)) then some a0 else pA a0 mq 1)
def yg (a0 : List lg) : Option (List lg) :=
 ((sM a0).bind fun d => ((sd d (fun (x : lg) => yK x)).bind fun a => ((yL (fun (x : (lg × lg)) => oV x.1 x.2) a).bind fun b => ((tX b).bind fun c => some c))))
def pZ (d : List lg) : List lg → Nat → Option Bool
 | [], _ => some true
 | c :: b, i90 => ((mZ d (i90 : Int)).bind fun a => (if (!(lQ c a)) then some false else (pZ d b (i90 + 1))))
def qZ (a0 a : List lg) : Option Bool :=
 (if ((a0.length : Int) != (a.length : Int)) then some false else pZ a a0 0)
def AF (a0 : mY) : Option Bool :=
 ((pM a0.lE).bind fun a => ((qe a a0.lE).bind fun b => ((if b then ((pM a0.Shown).bind fun i => ((qe i a0.Shown).bind fun j => some j)) else some false).bind fun k => ((if k then ((yg a0.lT).bind fun g => ((qZ g a0.lT).bind fun h => some h)) else some false).bind fun l => ((if l then ((yg a0.mH).bind fun c => ((qZ c a0.mH).bind fun d => some d)) else some false).bind fun n => some n)))))
def rz (a0 : List lf) (f1 : lf → Option Bool) : Option Bool :=
 ((qN a0 f1).bind fun a => some (decide (a ≥ 0)))
def vu (a0 : lf) (c : ByteArray) (a : List mg) (b : List nQ) (j : ByteArray) (k : Int) (d i : List lf) (g h : List lg) : Option Bool :=
 ((yy (⟨c, a, b⟩ : lm) a0).bind fun l => some (!l.2))
def zT (a0 : mY) : Option Bool :=
 ((wT a0.lm).bind fun a => ((if (a != 0) then some true else ((pT a0.mx).bind fun d => some (!d))).bind fun g => ((if g then some true else some (decide (a0.Room < 0))).bind fun h => ((if h then some true else some (decide (a0.Room > 256))).bind fun i => ((if i then some true else ((AF a0).bind fun c => some (!c))).bind fun j => (if j then some false else ((rz a0.Shown (fun (x : lf) => vu x a0.lm.Name a0.lm.lJ a0.lm.mf a0.mx a0.Room a0.lE a0.Shown a0.lT a0.mH)).bind fun b => some (!b))))))))
def xn (d : List lg) : List lg → Nat → Option Bool
 | [], _ => some true
 | c :: b, i90 => ((mZ d (i90 : Int)).bind fun a => (if (!(lQ c a)) then some false else (xn d b (i90 + 1))))
structure uZ where
 Kind : Int
 S : List Signed
 C : List lf
def oM (q : Option oe) (a0 : mY) : List Signed → Int → (List lf) → Option (Int × Int × mY)
 | [], b, a => some (b, 0, (⟨a0.lm, a0.mx, a0.Room, a, a0.Shown, a0.lT, a0.mH⟩ : mY))
 | c :: d, b, a => ((qo q c).bind fun j => ((if (j != 0) then some true else ((qM a c.lf).bind fun n => some n)).bind fun o => (if o then (oM q a0 d b a) else (if (decide ((a.length : Int) ≥ a0.Room)) then some (b, 40, (⟨a0.lm, a0.mx, a0.Room, a, a0.Shown, a0.lT, a0.mH⟩ : mY)) else ((((qY a).bind fun l => some (l, ([c.lf]))) : Option ((List lf) × (List lf))).bind fun (g, h) => ((ol 136 g h).bind fun i => ((pM i).bind fun k => (oM q a0 d (wi0 .i64 (b + 1)) k))))))))
def sH (a0 : mY) (a : Option oe) (a2 : List Signed) : Option (Int × Int × mY) :=
 (if a.isNone then some (0, 1, a0) else oM a a0 a2 0 a0.lE)
def vd  : Option Bool :=
 ((zp ([(⟨(⟨#[120]⟩ : ByteArray), [107]⟩ : Key)])).bind fun q => ((pO q.1 (⟨1, (⟨(⟨#[120]⟩ : ByteArray), (⟨#[121]⟩ : ByteArray)⟩ : lg), (⟨#[109, 101]⟩ : ByteArray), (⟨zS, zS⟩ : lg), (⟨zS, zS⟩ : lg), zS⟩ : lf)).bind fun i => ((pO q.1 (⟨1, (⟨(⟨#[120]⟩ : ByteArray), (⟨#[122]⟩ : ByteArray)⟩ : lg), (⟨#[121, 111, 117]⟩ : ByteArray), (⟨zS, zS⟩ : lg), (⟨zS, zS⟩ : lg), zS⟩ : lf)).bind fun h => ((xD (⟨(⟨#[109, 101]⟩ : ByteArray), [(⟨i.1, (⟨1, 0, (⟨(⟨#[120]⟩ : ByteArray), (⟨#[122]⟩ : ByteArray)⟩ : lg), []⟩ : Formula)⟩ : mg)], []⟩ : lm) (⟨#[121, 111, 117]⟩ : ByteArray) 1).bind fun g => ((oz (⟨(⟨((g.1).lm).Name, ((g.1).lm).lJ, ((g.1).lm).mf⟩ : lm), (g.1).mx, (g.1).Room, (g.1).lE, (g.1).Shown, (g.1).lT, (g.1).mH⟩ : mY) ([(⟨1, (⟨(⟨#[120]⟩ : ByteArray), (⟨#[121]⟩ : ByteArray)⟩ : lg), (⟨#[109, 101]⟩ : ByteArray), (⟨zS, zS⟩ : lg), (⟨zS, zS⟩ : lg), zS⟩ : lf)])).bind fun d => ((sH (⟨(⟨((d.2.2).lm).Name, ((d.2.2).lm).lJ, ((d.2.2).lm).mf⟩ : lm), (d.2.2).mx, (d.2.2).Room, (d.2.2).lE, (d.2.2).Shown, (d.2.2).lT, (d.2.2).mH⟩ : mY) q.1 ([(⟨(h.1).lf, (h.1).Tag⟩ : Signed), (⟨(h.1).lf, (h.1).Tag⟩ : Signed)])).bind fun c => ((yB c.2.2).bind fun x => ((oz (⟨(⟨((c.2.2).lm).Name, ((c.2.2).lm).lJ, ((c.2.2).lm).mf⟩ : lm), (c.2.2).mx, (c.2.2).Room, (c.2.2).lE, (c.2.2).Shown, (c.2.2).lT, (c.2.2).mH⟩ : mY) ([(⟨1, (⟨(⟨#[120]⟩ : ByteArray), (⟨#[121]⟩ : ByteArray)⟩ : lg), (⟨#[109, 101]⟩ : ByteArray), (⟨zS, zS⟩ : lg), (⟨zS, zS⟩ : lg), zS⟩ : lf)])).bind fun a => ((if (i.2 == 0) then some (h.2 == 0) else some false).bind fun y => ((if y then some (g.2 == 0) else some false).bind fun z => ((if z then some (d.2.1 == 44) else some false).bind fun A => ((if A then some (c.1 == 1) else some false).bind fun D => ((if D then some (c.2.1 == 0) else some false).bind fun E => ((if E then some ((x.length : Int) == 1) else some false).bind fun F => ((if F then some (a.2.1 == 0) else some false).bind fun G => ((if G then some ((a.1.length : Int) == 1) else some false).bind fun I => ((if I then ((mZ a.1 0).bind fun w => ((zG w (⟨(i.1).lf, (i.1).Tag⟩ : Signed)).bind fun o => some o)) else some false).bind fun J => ((if J then some ((((a.2.2).Shown).length : Int) == 1) else some false).bind fun r => ((if r then ((vr a.2.2 (⟨1, (⟨(⟨#[120]⟩ : ByteArray), (⟨#[121]⟩ : ByteArray)⟩ : lg), (⟨#[109, 101]⟩ : ByteArray), (⟨zS, zS⟩ : lg), (⟨zS, zS⟩ : lg), zS⟩ : lf)).bind fun n => some n) else some false).bind fun s => ((if s then ((zT a.2.2).bind fun l => some l) else some false).bind fun t => ((if t then ((vo a.2.2).bind fun b => ((qF (⟨(⟨#[120]⟩ : ByteArray), (⟨#[122]⟩ : ByteArray)⟩ : lg) b.1 b.2.1 b.2.2.1 b.2.2.2.1 b.2.2.2.2.1 b.2.2.2.2.2.1 b.2.2.2.2.2.2.1 (((a.2.2).lm).lJ) (((a.2.2).lm).mf) b.2.2.2.2.2.2.2.1 b.2.2.2.2.2.2.2.2 ((a.2.2).lE) ((a.2.2).Shown) ((a.2.2).lT) ((a.2.2).mH)).bind fun k => some k)) else some false).bind fun u => ((if u then ((yB a.2.2).bind fun j => some ((j.length : Int) == 0)) else some false).bind fun v => some v))))))))))))))))))))))
def qX (i : ByteArray) (a : List mg) (b : List nQ) (j : ByteArray) (k : Int) (c d : List lf) (g h : List lg) : List lf → Option (Bool ⊕ Unit)
 | [] => some (Sum.inr ())
 | o :: l => ((vr (⟨(⟨i, a, b⟩ : lm), j, k, c, d, g, h⟩ : mY) o).bind fun n => (if (!n) then some (Sum.inl false) else (qX i a b j k c d g h l)))
def rb (j : ((List Signed) × Int × mY)) (a : ((List (lg × (List (ByteArray × Bool)))) × (List lf) × (List (lg × (List lf))) × (List (ByteArray × (List lf))) × (List lF) × Int × ByteArray × ByteArray × Int)) (b : List mg) (c : List nQ) (d g : List lf) (h i : List lg) : List Signed → Option ((Bool ⊕ (ByteArray × (List mg) × (List nQ) × ByteArray × Int × (List lf) × (List lf) × (List lg) × (List lg))) ⊕ Unit)
 | [] => some (Sum.inr ())
 | o :: l => ((wN ((j.2.2).lm) o.lf).bind fun k => ((if (k.2 != 0) then some true else ((tf k.1 (fun (x : lg) => qF x a.1 a.2.1 a.2.2.1 a.2.2.2.1 a.2.2.2.2.1 a.2.2.2.2.2.1 a.2.2.2.2.2.2.1 b c a.2.2.2.2.2.2.2.1 a.2.2.2.2.2.2.2.2 d g h i)).bind fun n => some (!n))).bind fun q => (if q then some (Sum.inl (Sum.inl false)) else (rb j a b c d g h i l))))
def qc (j : ByteArray) (b : List mg) (c : List nQ) (k : ByteArray) (l : Int) (d g : List lf) (h i : List lg) : List mg → (List lf) → Option (List lf)
 | [], a => some a
 | o :: n, a => ((vr (⟨(⟨j, b, c⟩ : lm), k, l, d, g, h, i⟩ : mY) o.Signed.lf).bind fun r => (if r then ((ol 136 a ([o.Signed.lf])).bind fun q => (qc j b c k l d g h i n q)) else (qc j b c k l d g h i n a)))
def rc (P : ((Option oe) × Int)) : List uZ → Nat → ByteArray → (List mg) → (List nQ) → ByteArray → Int → (List lf) → (List lf) → (List lg) → (List lg) → Option Bool
 | [], _, l, c, d, n, o, g, h, i, j => some true
 | k :: D, q, l, c, d, n, o, g, h, i, j => ((if (decide ((q : Int) ≥ 12)) then some true else ((rD ([]) k.S).bind fun L => ((po k.C).bind fun M => some (decide ((wi0 .i64 (L + M)) > 1500))))).bind fun O => (if O then some true else ((qc l c d n o g h i j c ([])).bind fun E => (((if ((wi0 .i64 (BitVec.ofInt (IntKind.bits .i64) k.Kind &&& BitVec.ofInt (IntKind.bits .i64) 1).toNat) == 0) then ((sH (⟨(⟨l, c, d⟩ : lm), n, o, g, h, i, j⟩ : mY) P.1 k.S).bind fun b => some (Sum.inr ((((b.2.2).lm).Name), (((b.2.2).lm).lJ), (((b.2.2).lm).mf), ((b.2.2).mx), ((b.2.2).Room), ((b.2.2).lE), ((b.2.2).Shown), ((b.2.2).lT), ((b.2.2).mH)))) else ((vo (⟨(⟨l, c, d⟩ : lm), n, o, g, h, i, j⟩ : mY)).bind fun J => ((oz (⟨(⟨l, c, d⟩ : lm), n, o, g, h, i, j⟩ : mY) k.C).bind fun a => ((rb a J c d g h i j a.1).bind fun s => match s with | .inl G => some G | .inr _ => some (Sum.inr ((((a.2.2).lm).Name), (((a.2.2).lm).lJ), (((a.2.2).lm).mf), ((a.2.2).mx), ((a.2.2).Room), ((a.2.2).lE), ((a.2.2).Shown), ((a.2.2).lT), ((a.2.2).mH))))))) : Option (Bool ⊕ (ByteArray × (List mg) × (List nQ) × ByteArray × Int × (List lf) × (List lf) × (List lg) × (List lg)))).bind fun s => match s with | .inl I => some I | .inr (y, r, t, z, A, u, v, w, x) => ((qX y r t z A u v w x E).bind fun s => match s with | .inl F => some F | .inr _ => (rc P D (q + 1) y r t z A u v w x))))))
def wA (a0 : mY) (i : List Key) (a2 : List uZ) : Option Bool :=
 (vd.bind fun c => (if (!c) then some false else ((zp i).bind fun b => ((yJ a0).bind fun d => ((if (decide (d > 4000)) then some true else ((rD i ([])).bind fun a => some (decide (a > 1500)))).bind fun g => ((if g then some true else some (b.2 != 0)).bind fun h => (if h then some true else rc b a2 0 a0.lm.Name a0.lm.lJ a0.lm.mf a0.mx a0.Room a0.lE a0.Shown a0.lT a0.mH)))))))
end
end Go.Proofs.YtklbhegeiijbjaaGreat
