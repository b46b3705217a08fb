/- a part of a proof of StrandSums -/
import Derived.Test.YtjjjihkifgdhgaaGreatRtVi
import Derived.Recover
import Derived.LaidEqlPtr
import Derived.RangeFuncRecord
import Derived.Shelf.SlSortCmp.NoneTotal
import Derived.Shelf.SortM.Plain
import Derived.Shelf.SortM.SortNone
import Derived.Shelf.SlIter.Sorted
import Derived.Shelf.SlIter.Nil
import Derived.Test.YtjjjihkifgdhgaaGreatProg
import Derived.KernelRfl
set_option linter.all false
namespace Go.Proofs.YtjjjihkifgdhgaaGreat
open Go.IntKind renaming wrap → wi0
open Go.RowKit
variable [M : Md]
section
variable {dd : Bool}
def AM {α : Type} (R : pA α) : jN → List Value → α → Prop := fun μ vs x => ∃ ys, vs = [.agg ys.toArray] ∧ R μ ys x
def uR {α β : Type} (R : pA α) (S : pA β) : jN → List Value → α × β → Prop := fun μ vs x => ∃ ys zs, vs = [.agg ys.toArray, .agg zs.toArray] ∧ R μ ys x.1 ∧ S μ zs x.2
theorem AM.mk {α : Type} {R : pA α} {k : Nat} {μ μ' : jN} {ys : List Value} {x : α} (a : Deep R k) (h : R μ ys x) (b : jR μ μ') : AM R μ' [.agg ys.toArray] x := ⟨ys, rfl, a.mono _ _ _ _ b h⟩
theorem uR.mk {α β : Type} {R : pA α} {S : pA β} {k m : Nat} {μ μ' : jN} {ys zs : List Value} {x : α} {y : β} (d : Deep R k) (g : Deep S m) (h : R μ ys x) (b : S μ zs y) (a : jR μ μ') : uR R S μ' [.agg ys.toArray, .agg zs.toArray] (x, y) :=
 ⟨ys, zs, rfl, d.mono _ _ _ _ a h, g.mono _ _ _ _ a b⟩
def wK {α β : Type} (P : Program) (fv : Value) (μ : jN) (Ra : jN → List Value → α → Prop) (a : β → Value) (pm : α → Option β) : Prop :=
 ∃ f first caps, fv = .func (.func f) first caps ∧ (∀ args w, (callFunc f args).run P w = .ok (.enter f args) w) ∧ ∀ W x vs r, jR μ (hp W) → Ra (hp W) vs x → pm x = some r → ke false P f (first.toList ++ (vs ++ caps.toList)) W (a r)
theorem wK.form {α β : Type} {P : Program} {fv : Value} {μ : jN} {Ra : jN → List Value → α → Prop} {d : β → Value} {pm : α → Option β} (h : wK P fv μ Ra d pm) : ∃ f a b, fv = .func f a b := let ⟨f, a, b, h, _⟩ := h; ⟨_, a, b, h⟩
end
section
variable {P : Program} {W : World} {E : Nat → Value} {d : Option Nat} {ty : TypeId} {pos : String} {af : Array Edge} {g : Option (Nat × Bool)} {F : Nat → Prop} {w : World} {μ μ0 : jN} {L : List (Nat × Obj)}
theorem wK.mono {α β : Type} {fv : Value} {Ra : jN → List Value → α → Prop} {a : β → Value} {pm : α → Option β} (h : wK P fv μ Ra a pm) (g : jR μ μ0) : wK P fv μ0 Ra a pm := by
 obtain ⟨f, first, caps, h1, b, d⟩ := h
 exact ⟨f, first, caps, h1, b, fun W x vs r h => d W x vs r (g.trans h)⟩
theorem xW {α β : Type} {K : Value → World → Prop} {fv : Value} {Ra : jN → List Value → α → Prop} {j : β → Value} {pm : α → Option β} {b : Operand} {ax : Array Operand} {ats : Array TypeId} (x : α) {vs : List Value} {r : β} (a : ST false F w W μ L) (q : wK P fv μ0 Ra j pm) (t : jR μ0 μ) (p : Ra (hp W) vs x) (s : jz E b = fv) (ha : ax.map (jz E) ++ (#[] : Array Value) = vs.toArray) (hm : pm x = some r) (h : ∀ W', ST false F w W' μ L → K (j r) W') : mL P E ⟨d, .call ⟨.value b, ax, ats⟩, ty, pos, af, g⟩ W K := by
 obtain ⟨f, first, caps, rfl, k, l⟩ := q
 have i : ax.map (jz E) = vs.toArray := by simpa using ha
 refine .inr (.inr ⟨f, (first.toList ++ (vs ++ caps.toList)).toArray, ?_, cT (l W x vs r (t.trans a.jy) p hm) (fun _ _ ⟨m, n⟩ => ⟨_, m, h _ (a.F3 n)⟩)⟩)
 show (do let d ← resolve (jz E) ⟨.value b, ax, ats⟩ ty; invoke d.target d.args : Sem Next).run P W = _
 simp only [resolve, s, Deferred.ofValue, bY, cX, bK, invoke, i, k]
 congr 2
 simp
end
section
variable {dd : Bool}
variable {β : Type} {Rl : pA β} {k : Nat} {μ : jN} {v : Value} {l : List β} {e : TypeId} {B : List (Nat × Obj)}
variable {F : Nat → Prop} {w W : World} {L : List (Nat × Obj)}
variable {P : Program} {E : Nat → Value} {d : Option Nat} {ty : TypeId} {pos : String} {af : Array Edge} {g : Option (Nat × Bool)}
theorem IY {α : Type} {enc : α → List Value} (hk : ∀ x, (enc x).length = k) (d : 0 < k) (g : ∀ x y, enc x = enc y → x = y) : ∀ {l m : List α}, (l.map enc).flatten = (m.map enc).flatten → l = m
 | [], [], _ => rfl
 | [], b :: m, h => by
  have := bN List.length h
  simp only [eu, dl, bP, bD, bO, aD, hk] at this
  omega
 | a :: l, [], h => by
  have := bN List.length h
  simp only [eu, dl, bP, bD, bO, aD, hk] at this
  omega
 | a :: l, b :: m, h => by
  simp only [bD, bO] at h
  obtain ⟨h1, i⟩ := List.append_inj h (by rw [hk, hk])
  rw [g _ _ h1, IY hk d g i]
theorem Tk (x y : wj k) (h : uK x = uK y) : x = y := Subtype.ext h
theorem jM.pre {v1 : Value} {cl a : List (wj k)} (g : 0 < k) (h : jM e uK k v cl B) (h1 : jM e uK k v1 a B) (d : a.length ≤ cl.length) : a = cl.take a.length := by
 rcases h with ⟨rfl, rfl, rfl⟩ | ⟨r, cap, b, rfl, rfl, s, t, u, p⟩
 ·simp at d; simp [d]
 ·rcases h1 with ⟨_, _, h⟩ | ⟨g1, i, j, rfl, l, q, a2, a3, a4⟩
  ·cases h
  ·cases l
   refine IY yx g Tk ?_
   rw [← a4]
   have hle : a.length * k ≤ cl.length * k := cM _ d
   have : b.toList.take (a.length * k) = (b.toList.take (cl.length * k)).take (a.length * k) := by rw [gu, dC hle]
   rw [this, p]
   have m : (cl.map uK).flatten = ((cl.take a.length).map uK).flatten ++ ((cl.drop a.length).map uK).flatten := by rw [← cN, ← cE, gE]
   have n : ((cl.take a.length).map uK).flatten.length = a.length * k := by rw [pJ yx, dv, dC d]
   rw [m, ← n, List.take_left]
theorem pd.replicate {α β : Type} {Q : α → β → Prop} {a : α} {b : β} (h : Q a b) : ∀ n, pd Q (List.replicate n a) (List.replicate n b)
 | 0 => .nil
 | n + 1 => .cons h (pd.replicate h n)
theorem pd.Tj {α β : Type} {Q : α → β → Prop} {l : List α} {m : List β} (h : pd Q l m) {a : α} {b : β} (d : Q a b) (i : Nat) : pd Q (oq l i a) (oq m i b) := by
 unfold oq
 rw [h.length]
 exact (h.take i).append (pd.replicate d _)
theorem F2 {t e' : TypeId} {x ih : Operand} {u : IntKind} {i : Int} (r : P.underlying t = some (.slice e')) (he : ∀ w, (sizeOf e').run P w = .ok k w) (s : jz E x = v) (p : jz E ih = .int u i) (h : kw e Rl k μ v l B) (j : 0 ≤ i) (q : i ≤ l.length) :
  ∃ a, kw e Rl k μ a (l.take i.toNat) B ∧ ∀ W, lD P E ⟨d, .slice t x none (some ih) none, ty, pos, af, g⟩ W a W := by
 obtain ⟨cl, h1, b⟩ := h
 obtain ⟨a, m, n⟩ := AZ (d := d) (ty := ty) (pos := pos) (af := af) (g := g) r he s p h1 yx j (by rw [b.length]; exact q)
 exact ⟨a, ⟨_, m, b.take _⟩, n⟩
theorem As {t e' : TypeId} {x a : Operand} {r : IntKind} {i : Int} (p : P.underlying t = some (.slice e')) (he : ∀ w, (sizeOf e').run P w = .ok k w) (q : jz E x = v) (m : jz E a = .int r i) (h : kw e Rl k μ v l B) (b : 0 ≤ i) (n : i ≤ l.length) :
  ∃ u, zY k v i.toNat u ∧ ∀ W, lD P E ⟨d, .slice t x (some a) none none, ty, pos, af, g⟩ W u W := by
 obtain ⟨cl, h1, j⟩ := h
 exact yS p he q m h1 b (by rw [j.length]; exact n)
theorem Lq {t e' : TypeId} {x : Operand} {u : Value} {i : Nat} (b : P.underlying t = some (.slice e')) (j : jz E x = u) (hu : zY k v i u) (h : kw e Rl k μ v l B) : lD P E ⟨d, .call ⟨.builtin .len, #[x], #[t]⟩, ty, pos, af, g⟩ W (.int .i64 ((l.length - i : Nat) : Int)) W := by
 obtain ⟨cl, h1, a⟩ := h
 rw [← a.length]
 exact HC b j hu h1
theorem AF {t e' : TypeId} {x j : Operand} {J : IntKind} {i : Int} {x0 : β} {u : Value} {o : Nat} {A : List Value → Prop} (y : ∀ {ys}, Rl μ ys x0 → A ys) (G : P.underlying t = some (.slice e')) (he : ∀ w, (sizeOf e').run P w = .ok k w) (I : jz E x = u) (r : jz E j = .int J i) (h : kw e Rl k μ v l B) (hu : zY k v o u) (m : 0 ≤ i) (s : (l.drop o)[i.toNat]? = some x0) :
  ∃ p, (∃ ys, A ys ∧ At (BE B) p ys ∧ Al B k p (o + i.toNat)) ∧ ∀ W, lD P E ⟨d, .indexAddr t x j, ty, pos, af, g⟩ W p W := by
 obtain ⟨cl, h1, n⟩ := h
 obtain ⟨c, b, z⟩ := (n.drop o).get s
 obtain ⟨p, a, q⟩ := za (d := d) (ty := ty) (pos := pos) (af := af) (g := g) G he I r h1 hu m b
 exact ⟨p, ⟨c.1, y z, a.at h1 yx (AI b), a⟩, q⟩
theorem DC {K : Value → World → Prop} {z : β} {zs : List Value} {Y : List (Nat × Obj)} {t e' : TypeId} {x : Operand} {u j : Value} {i : Nat} (p : Deep Rl k) (b : ST dd F w W μ (B ++ Y)) (h : kw e Rl k μ v l B) (a : Rl μ zs z) (s : P.underlying t = some (.slice e')) (G : ∀ w, (zeroValue e').run P w = .ok j w) (hu : zY k v i u) (r : j.cells = zs.toArray) (y : jz E x = u) (q : ∀ W' R', ST dd F w W' μ (R' ++ Y) → kw e Rl k μ v (oq l i z) R' → K (.tuple #[]) W') : mL P E ⟨d, .call ⟨.builtin .clear, #[x], #[t]⟩, ty, pos, af, g⟩ W K := by
 obtain ⟨cl, h1, n⟩ := h
 exact BI (p.cell a) b h1 yx N1 s G hu r y (fun W' R' m a2 => q W' R' m ⟨_, a2, n.Tj a i⟩)
end
section
variable {P : Program} {W : World} {E : Nat → Value} {d : Option Nat} {ty : TypeId} {pos : String} {af : Array Edge} {g : Option (Nat × Bool)}
theorem HX {i p : TypeId} {x y : Operand} {fv : Value} {s u : Array TypeId} {j : Bool} (l : P.underlying i = some (.func s u j)) (h : ∃ f a b, fv = .func f a b) (m : jz E x = fv) (n : jz E y = .nilFunc) :
  lD P E ⟨d, .binOp .neq i x y p, ty, pos, af, g⟩ W (.bool true) W := by
 obtain ⟨f, a, b, rfl⟩ := h
 show (do let r ← (do eqGuard .neq i x y (jz E x) (jz E y); binOp .neq i (jz E x) (jz E y)); pure (.value r) : Sem Next).run P W = _
 rw [m, n]
 have k := Fc 9999 l f a b W
 simp [eqGuard, binOp, Op.equal, show Op.maxDepth = 9999 + 1 from rfl, k]
end
end Go.Proofs.YtjjjihkifgdhgaaGreat
namespace Go.Proofs.YtjjjihkifgdhgaaGreat
open Go.IntKind renaming wrap → wi0
open Go.RowKit
variable [M : Md]
theorem bS {α β : Type} {m : Option α} {f : α → Option β} {r : β} {G : Prop} (h : m.bind f = some r) (k : ∀ x, m = some x → f x = some r → G) : G :=
 let ⟨x, a, b⟩ := bind_some h
 k x a b
theorem sj {α : Type} {a b : α} (h : some a = some b) : a = b := jb h
theorem bC {α : Type} {b : Bool} {x y r : α} {G : Prop} (h : (if b = true then x else y) = r) (a : b = true → x = r → G) (k2 : b = false → y = r → G) : G := by
 rcases L5 b with e | e
 ·exact a e (QS e h)
 ·exact k2 e (QU e h)
theorem cB {a b : Bool} (h : a = b) : Value.bool a = Value.bool b := bN Value.bool h
theorem nb {a b : Nat} (h : Nat.ble a b = true := by exact rfl) : a ≤ b := Nat.le_of_ble_eq_true h
def SL : Nat → Nat → List Bool
 | 0, _ => []
 | n + 1, m => (m % 2 == 1) :: SL n (m / 2)
def bm (n m : Nat) : Array Bool := (SL n m).toArray
section
variable {P : Program} {n : Nat} {Q : nr} {E : Nat → Value} {W : World}
theorem CI {α : Type} {co : Operand} {b : Bool} {x y : Code} {A B r : α} (hm : (if b = true then A else B) = r) (a : jz E co = .bool b) (g : b = true → A = r → CW P n x Q E W) (d : b = false → B = r → CW P n y Q E W) : CW P n (.cond co x y) Q E W :=
 LD a (fun e => g e (QS e hm)) (fun e => d e (QU e hm))
theorem CJ {σ ρ : Type} {m : Option σ} {k : σ → Option ρ} {r : ρ} {x : Code} {K : (Nat → Value) → World → Prop} (hm : m.bind k = some r) (I : σ → (Nat → Value) → World → Prop) (h1 : ∀ s, m = some s → CW P n x (oZ (I s) Q) E W) (d : ∀ s E W, I s E W → k s = some r → K E W) : CW P n x (oZ K Q) E W :=
 let ⟨s, a, b⟩ := bind_some hm
 Nd (I s) (h1 s a) (fun E W h => d s E W h b)
theorem TA {σ ρ d : Type} {m : Option (d ⊕ σ)} {k : d ⊕ σ → Option ρ} {r : ρ} {x : Code} {K : (Nat → Value) → World → Prop} (hm : m.bind k = some r) (I : σ → (Nat → Value) → World → Prop) (h1 : ∀ s, m = some s → k s = some r → CW P n x (oZ (fun E W => ∃ t, s = .inr t ∧ I t E W) Q) E W) (g : ∀ s E W, I s E W → k (.inr s) = some r → K E W) : CW P n x (oZ K Q) E W :=
 let ⟨s, a, b⟩ := bind_some hm
 Nd (fun E W => ∃ t, s = .inr t ∧ I t E W) (h1 s a b) (fun E W ⟨t, e, h⟩ => g t E W h (by subst e; exact b))
theorem LJ {σ ρ : Type} {m : Option σ} {k : σ → Option ρ} {r : ρ} {ops : Array Oper} {rest : List Oper} (hm : m.bind k = some r) (I : σ → (Nat → Value) → World → Prop) (j : Nat) (d : ∀ s E W, I s E W → k s = some r → LW P n ops Q (rest.drop j) E W) (h1 : ∀ s, m = some s → (∀ E W, I s E W → LW P n ops Q (rest.drop j) E W) → LW P n ops Q rest E W) : LW P n ops Q rest E W :=
 let ⟨s, a, b⟩ := bind_some hm
 h1 s a (fun E W h => d s E W h b)
theorem PJ {σ ρ : Type} {m : Option σ} {k : σ → Option ρ} {r : ρ} {ops : Array Oper} {S : Array Bool → World → Prop} {fuel : Nat} {listed : Array Bool} (hm : m.bind k = some r) (I : σ → (Nat → Value) → World → Prop) (g : Array Bool) (d : Nat) (i : ∀ s E W, I s E W → k s = some r → PX P n ops Q S d g E W) (h1 : ∀ s, m = some s → (∀ E W, I s E W → PX P n ops Q S d g E W) → PX P n ops Q S fuel listed E W) : PX P n ops Q S fuel listed E W :=
 let ⟨s, a, b⟩ := bind_some hm
 h1 s a (fun E W h => i s E W h b)
theorem cF (n : Nat) {f : FuncId} {fn : Func} {c : Code} {args : List Value} {w : World} {R : Ending → World → Prop} (a : P.funcs[f]? = some fn) (b : fn.body = some c) (h : @CW xI P n c (tz P fn R) (xH args) w) (g : fn.ntmps = n := by exact rfl) (d : args.length ≤ n := by exact nb) : Calls P f args.toArray w R := wM a b g d h
end
section
variable {dd : Bool} {P : Program} {fn : Func} {E : Nat → Value} {W w : World} {μ : jN} {L : List (Nat × Obj)}
theorem rP {t : Tmp} {v : Value} (a : ST dd kK w W μ L) (b : fn.results = #[.tmp t] := by exact rfl) (d : E t = v := by exact rfl) : tz P fn (fun e W' => e = .returned v ∧ Ex dd w W') .ret E W := li b d ⟨rfl, a.ex⟩
end
theorem ST.D6 {dd : Bool} {F : Nat → Prop} {w W : World} {μ : jN} {x : Nat × Obj} {L : List (Nat × Obj)} (h : ST dd F w W μ (x :: L)) : ST dd F w W μ ([x] ++ L) := h
theorem ST.Of {dd : Bool} {F : Nat → Prop} {w W : World} {μ : jN} {L : List (Nat × Obj)} (h : ST dd F w W μ L) : ST dd F w W μ ([] ++ L) := h
theorem aL {E : Nat → Value} {ax : Array Operand} {l : List Value} (h : ax.toList.map (jz E) = l) : ax.map (jz E) ++ (#[] : Array Value) = l.toArray := by subst h; apply Array.ext'; simp
section
variable {dd : Bool}
variable {P : Program} {E : Nat → Value} {W : World} {d : Option Nat} {ty : TypeId} {pos : String} {af : Array Edge} {g : Option (Nat × Bool)}
 {F : Nat → Prop} {w : World} {μ : jN} {L : List (Nat × Obj)}
variable {f : FuncId} {fv : Operand} {ax : Array Operand} {ats : Array TypeId} {args : List Value} {v : Value} {K : Value → World → Prop}
theorem Eg (a : ST dd F w W μ L) (he : ∀ args w, (callFunc f args).run P w = .ok (.enter f args) w) (b : ke dd P f args W v) (h : ∀ W', ST dd F w W' μ L → K v W') (i : jz E fv = .func (.func f) #[] #[] := by exact rfl) (ha : ax.toList.map (jz E) = args := by exact rfl) : mL P E ⟨d, .call ⟨.value fv, ax, ats⟩, ty, pos, af, g⟩ W K := Ey a i he (aL ha) b h
theorem vE {α : Type} {e : TypeId} {enc : α → List Value} {k : Nat} {l : List α} {Y : List (Nat × Obj)} (a : ST dd F w W μ Y) (he : ∀ args w, (callFunc f args).run P w = .ok (.enter f args) w) (b : mH dd P f args W e enc k l) (h : ∀ W' v μ' R, ST dd F w W' μ' (R ++ Y) → jR μ μ' → Lo F w μ μ' → jM e enc k v l R → K v W') (i : jz E fv = .func (.func f) #[] #[] := by exact rfl) (ha : ax.toList.map (jz E) = args := by exact rfl) : mL P E ⟨d, .call ⟨.value fv, ax, ats⟩, ty, pos, af, g⟩ W K := La _ a i he (aL ha) b h
theorem yb {K' : Value → List (Nat × Obj) → World → Prop} {L0 L2 : List (Nat × Obj)} (i : ST dd F w W μ L) (j : L.Perm (L0 ++ L2)) (he : ∀ args w, (callFunc f args).run P w = .ok (.enter f args) w) (k : zz L0 W → (L0.map (·.1)).Nodup → jR μ (pB W L0) → (∀ b o, (b, o) ∈ L2 → pB W L0 b = some o) → kA dd P f args W L0 K') (h : ∀ W' v μ' L1, ST dd F w W' μ' (L1 ++ L2) → jR μ μ' → Lo F w μ μ' → (∀ b, W.heap.size ≤ b → ∀ o, pB W' L1 b = some o → μ' b = some o) → K' v L1 W' → K v W') (l : jz E fv = .func (.func f) #[] #[] := by exact rfl) (ha : ax.toList.map (jz E) = args := by exact rfl) : mL P E ⟨d, .call ⟨.value fv, ax, ats⟩, ty, pos, af, g⟩ W K :=
 Ez L0 L2 i j l he (aL ha) (fun a b c d => by have := k a b c d; simpa using this) h
theorem Tz {K' : Value → List (Nat × Obj) → jN → Prop} {L0 L2 : List (Nat × Obj)} (i : ST dd F w W μ L) (j : L.Perm (L0 ++ L2)) (he : ∀ args w, (callFunc f args).run P w = .ok (.enter f args) w) (k : zz L0 W → (L0.map (·.1)).Nodup → jR μ (pB W L0) → (∀ b o, (b, o) ∈ L2 → pB W L0 b = some o) → lZ dd P f args W μ L0 K') (h : ∀ W' v μ' L1, ST dd F w W' μ' (L1 ++ L2) → jR μ μ' → Lo F w μ μ' → K' v L1 μ' → K v W') (l : jz E fv = .func (.func f) #[] #[] := by exact rfl) (ha : ax.toList.map (jz E) = args := by exact rfl) : mL P E ⟨d, .call ⟨.value fv, ax, ats⟩, ty, pos, af, g⟩ W K :=
 OH L0 L2 i j l he (aL ha) (fun a b c d => by have := k a b c d; simpa using this) h
end
section
variable {E : Nat → Value} {x1 x2 x3 x4 x5 x6 x7 x8 : Operand} {v1 v2 v3 v4 v5 v6 v7 v8 : Value}
theorem SO (h1 : jz E x1 = v1) : [x1].map (jz E) = [v1] := by rw [← h1]; rfl
theorem Tv (h1 : jz E x1 = v1) (a : jz E x2 = v2) : [x1, x2].map (jz E) = [v1, v2] := by rw [← h1, ← a]; rfl
end
theorem ml {P : Program} {E : Nat → Value} {W : World} {d : Option Nat} {ty : TypeId} {pos : String} {af : Array Edge} {g : Option (Nat × Bool)} {t e m k b o : Nat} {x a : Operand} {r : IntKind} {i : Int} (p : P.underlying t = some (.array m e)) (he : ∀ w, (sizeOf e).run P w = .ok k w) (q : jz E x = .pointer (some ⟨b, o, none⟩)) (l : jz E a = .int r i) (h : 0 ≤ i) (n : i < (m : Int)) : lD P E ⟨d, .indexAddr t x a, ty, pos, af, g⟩ W (.pointer (some ⟨b, o + i.toNat * k, none⟩)) W := by
 show (do pure (.value (← Instr.indexAt t (jz E x) (jz E a))) : Sem Next).run P W = _
 rw [q, l]
 have j : 0 ≤ i ∧ i < (m : Int) := ⟨h, n⟩
 simp [Instr.indexAt, asIntOf, aV p, he W, j, Instr.sureAddr, dA]
theorem Dl {i j : Int} {E : Nat → Value} {x : Operand} {k : IntKind} (h : (i == j) = true) (a : jz E x = .int k i) : jz E x = .int k j := by rw [a, eq_of_beq h]
end Go.Proofs.YtjjjihkifgdhgaaGreat
namespace Go.Proofs.YtjjjihkifgdhgaaGreat
open Go.IntKind renaming wrap → wi0
open Go.RowKit
def TE (R : List (Nat × Obj)) (k : Nat) (p : Value) (i a : Nat) : Prop := ∃ g o, R = [(g, o)] ∧ p = .pointer (some ⟨g, i * k + a, none⟩)
theorem Al.f {R : List (Nat × Obj)} {k : Nat} {p : Value} {i : Nat} (h : Al R k p i) : TE R k p i 0 := h
section
variable {P : Program} {E : Nat → Value} {W : World} {d : Option Nat} {ty : TypeId} {pos : String} {af : Array Edge} {g : Option (Nat × Bool)}
 {dd : Bool} {F : Nat → Prop} {w : World} {μ : jN} {L : List (Nat × Obj)} {α : Type} {e' : TypeId} {enc : α → List Value} {k : Nat} {v : Value} {l : List α} {R : List (Nat × Obj)}
theorem jM.put (h : jM e' enc k v l R) (hk : ∀ x, (enc x).length = k) {p : Value} {i : Nat} (hp : Al R k p i) {x0 : α} (t : l[i]? = some x0) (x1 : α) :
  ∃ g a, R = [(g, .cells a e' (0, 0))] ∧ p = .pointer (some ⟨g, i * k, none⟩) ∧ i * k + k ≤ a.size ∧ (∀ j y, (enc x0)[j]? = some y → a[i * k + j]? = some y) ∧
   jM e' enc k v (l.set i x1) [(g, .cells (a.toList.take (i * k) ++ enc x1 ++ a.toList.drop (i * k + k)).toArray e' (0, 0))] := by
 have n : i < l.length := (bJ.1 t).1
 obtain ⟨r, a, cap, rfl, rfl, s, z, m, E, rfl, G⟩ := An h hk hp t
 have hle : i * k + k ≤ cap * k := by
  have : (i + 1) * k ≤ cap * k := cM _ (by omega)
  rwa [cL, jd] at this
 have b : i * k + k ≤ l.length * k := by
  have : (i + 1) * k ≤ l.length * k := cM _ (by omega)
  rwa [cL, jd] at this
 have hlen : l.length * k ≤ cap * k := cM _ s
 refine ⟨r, a, rfl, rfl, by rw [m]; exact hle, G, .inr ⟨r, cap, _, by simp, rfl, by simpa using s, z, ?_, ?_⟩⟩
 ·show ((a.toList.take (i * k) ++ (enc x1) ++ a.toList.drop (i * k + k)).toArray).size = _
  have d : a.toList.length = cap * k := by simpa using m
  rw [dx, aD, aD, dv, gG, hk, d, dC (by omega)]; omega
 ·rw [gP, Fa hk l i x1 n, ← E]
  have u : (a.toList.take (l.length * k)).take (i * k) = a.toList.take (i * k) := by rw [gu]; congr 1; omega
  have w : (a.toList.take (l.length * k)).drop (i * k + k) = (a.toList.drop (i * k + k)).take (l.length * k - (i * k + k)) := by rw [iq]
  rw [u, w]
  show List.take (l.length * k) (a.toList.take (i * k) ++ enc x1 ++ a.toList.drop (i * k + k)) = _
  have d : a.toList.length = cap * k := by simpa using m
  have q : (a.toList.take (i * k) ++ enc x1).length = i * k + k := by rw [aD, dv, hk, d, dC (by omega)]
  rw [fe, dB (by rw [q]; exact b), q]
end
variable [M : Md]
theorem oc {v : Value} (h : v.cells.toList.all Value.oneCell' = true := by exact rfl) : ∀ u ∈ v.cells.toList, u.oneCell' = true := eF.1 h
theorem dc {p : Prop} [Decidable p] (h : p := by decide) : p := h
theorem kr {p : Prop} (h : p := by kernel_rfl) : p := h
theorem br {α : Sort _} {a b : α} (h : a = b := by rfl) : a = b := h
abbrev LO := List (Nat × Obj)
abbrev Ob (c : Array Value) (t : TypeId) : Obj := .cells c t (0, 0)
abbrev Ol (c : List Value) (t : TypeId) : Obj := .cells c.toArray t (0, 0)
theorem mN {P : Program} {t e : TypeId} {m k : Nat} {z : Value} {qs : Array (Nat × Value)} {cs : Array Value} (i : P.underlying t = some (.slice e)) (g : ∀ w, (sizeOf e).run P w = .ok k w) (l : ∀ w, (zeroValue e).run P w = .ok z w) (hm : m * k ≤ 16777216 := by decide) (d : qs.toList = (qs.toList.map (·.2)).zipIdx.map (fun p => (p.2, p.1)) := by exact rfl) (j : (qs.toList.map (·.2)).all (fun v => v.cells.size == k) = true := by exact rfl) (b : (qs.toList.map (·.2)).length = m := by exact rfl) (a : ((qs.toList.map (·.2)).flatMap (fun v => v.cells.toList)).toArray = cs := by exact rfl) (W : World) :
  (Instr.buildSlice t m qs).run P W = .ok (.slice (some ⟨W.heap.size, 0, none⟩) m m) (W.alloc (.cells cs e (0, 0))) :=
 Ak _ i g l hm d (fun v h => eq_of_beq (eF.1 j v h)) b a W
section
variable {dd : Bool} {P : Program} {fn : Func} {E : Nat → Value} {W w : World} {μ : jN} {L L0 : List (Nat × Obj)}
theorem rQ {α : Type} {f : α → Value} {a r : α} {t : Tmp} (hm : some a = some r) (b : ST dd kK w W μ L) (d : fn.results = #[.tmp t] := by exact rfl) (g : E t = f a := by exact rfl) : tz P fn (fun e W' => e = .returned (f r) ∧ Ex dd w W') .ret E W := by
 obtain rfl := sj hm; exact li d g ⟨rfl, b.ex⟩
theorem cG (n : Nat) {f : FuncId} {c : Code} {args : List Value} {v : Value} (a : P.funcs[f]? = some fn) (b : fn.body = some c) (h : ST dd kK w w (hp w) [] → @CW xI P n c (tz P fn (fun e i => e = .returned v ∧ Ex dd w i)) (xH args) w) (g : fn.ntmps = n := by exact rfl) (d : args.length ≤ n := by exact nb) : ke dd P f args w v := wM a b g d (h (ST.start w))
theorem yc {K : Value → List (Nat × Obj) → World → Prop} (n : Nat) {f : FuncId} {c : Code} {args : List Value} (a : P.funcs[f]? = some fn) (d : fn.body = some c) (h : ST dd kK w w (hp w) [] → @CW xI P n c (tz P fn (fun e b => ∃ v L1, e = .returned v ∧ qK dd [] L1 w b ∧ K v L1 b)) (xH args) w) (i : fn.ntmps = n := by exact rfl) (g : args.length ≤ n := by exact nb) : kA dd P f args w [] K := wM a d i g (h (ST.start w))
theorem xL {K : Value → List (Nat × Obj) → World → Prop} (d : nT μ L0 w) (n : Nat) {f : FuncId} {c : Code} {args : List Value} (a : P.funcs[f]? = some fn) (g : fn.body = some c) (h : ST dd (keys L0) w w μ L0 → @CW xI P n c (tz P fn (fun e b => ∃ v L1, e = .returned v ∧ qK dd L0 L1 w b ∧ K v L1 b)) (xH args) w) (j : fn.ntmps = n := by exact rfl) (i : args.length ≤ n := by exact nb) : kA dd P f args w L0 K := wM a g j i (h (ST.JC d))
theorem vO {K : Value → List (Nat × Obj) → jN → Prop} (d : nT μ L0 w) (n : Nat) {f : FuncId} {c : Code} {args : List Value} (a : P.funcs[f]? = some fn) (g : fn.body = some c) (h : ST dd (keys L0) w w μ L0 → @CW xI P n c (tz P fn (fun e b => ∃ v L1 μ1, e = .returned v ∧ qK dd L0 L1 w b ∧ jR μ μ1 ∧ Lo (keys L0) w μ μ1 ∧ jR μ1 (pB b L1) ∧ K v L1 μ1)) (xH args) w) (j : fn.ntmps = n := by exact rfl) (i : args.length ≤ n := by exact nb) : lZ dd P f args w μ L0 K := wM a g j i (h (ST.JC d))
end
section
variable {dd : Bool}
variable {P : Program} {E : Nat → Value} {W : World} {d : Option Nat} {ty : TypeId} {pos : String} {af : Array Edge} {g : Option (Nat × Bool)}
 {F : Nat → Prop} {w : World} {μ : jN} {L : List (Nat × Obj)}
variable {f : FuncId} {fv : Operand} {ax : Array Operand} {ats : Array TypeId} {args : List Value} {v : Value} {K : Value → World → Prop}
theorem eM {K' : Value → List (Nat × Obj) → World → Prop} {L0 L2 : List (Nat × Obj)} (i : ST dd F w W μ L) (j : L.Perm (L0 ++ L2)) (he : ∀ args w, (callFunc f args).run P w = .ok (.enter f args) w) (k : nT (pB W L0) L0 W → jR μ (pB W L0) → kA dd P f args W L0 K') (h : ∀ W' v μ' L1, ST dd F w W' μ' (L1 ++ L2) → jR μ μ' → Lo F w μ μ' → (∀ b, W.heap.size ≤ b → ∀ o, pB W' L1 b = some o → μ' b = some o) → K' v L1 W' → K v W') (l : jz E fv = .func (.func f) #[] #[] := by exact rfl) (ha : ax.toList.map (jz E) = args := by exact rfl) : mL P E ⟨d, .call ⟨.value fv, ax, ats⟩, ty, pos, af, g⟩ W K :=
 yb i j he (fun a b c _ => k ⟨a, b, jR.refl _⟩ c) h l ha
theorem eD {K' : Value → List (Nat × Obj) → jN → Prop} {L0 L2 : List (Nat × Obj)} (i : ST dd F w W μ L) (j : L.Perm (L0 ++ L2)) (he : ∀ args w, (callFunc f args).run P w = .ok (.enter f args) w) (k : nT μ L0 W → lZ dd P f args W μ L0 K') (h : ∀ W' v μ' L1, ST dd F w W' μ' (L1 ++ L2) → jR μ μ' → Lo F w μ μ' → K' v L1 μ' → K v W') (l : jz E fv = .func (.func f) #[] #[] := by exact rfl) (ha : ax.toList.map (jz E) = args := by exact rfl) : mL P E ⟨d, .call ⟨.value fv, ax, ats⟩, ty, pos, af, g⟩ W K :=
 Tz i j he (fun a b c _ => k ⟨a, b, c⟩) h l ha
end
def MX (op : BinOp) : Value → Value → Option Value
 | .int k a, .int k' b => if k = k' then Im k op a b else none
 | _, _ => none
def QT (i : Nat) : Value → Option Value
 | .tuple vs => vs[i]?
 | _ => none
def Iu : Value → Bool
 | .pointer (some ⟨_, _, none⟩) => true
 | _ => false
def QN (o : Nat) : Value → Value
 | .pointer (some ⟨b, k, none⟩) => .pointer (some ⟨b, k + o, none⟩)
 | v => v
theorem HK {v : Value} (h : Iu v = true) : ∃ b k, v = .pointer (some ⟨b, k, none⟩) := by
 unfold Iu at h; split at h
 ·exact ⟨_, _, rfl⟩
 ·cases h
section
variable {P : Program} {n : Nat} {Q : nr} {E : Nat → Value} {W : World} {ops : Array Oper} {rest : List Oper}
 {d j t : Nat} {want b : Bool} {v : Value} {ins : Go.Op} {ty : TypeId} {pos : String} {af : Array Edge} {A : Value → Prop} {x y : Operand}
theorem Wm (h : LW P n ops Q rest (nm E d (jz E x)) W) (a : d < n := by decide) : LW P n ops Q (⟨some d, .move x, ty, pos, af, none⟩ :: rest) E W := V (jx rfl) h a
theorem Wa (h : LW P n ops Q rest (nm E d (jz E x)) W) (a : d < n := by decide) : LW P n ops Q (⟨some d, .assign x, ty, pos, af, none⟩ :: rest) E W := V (ma rfl) h a
theorem Wh (b : jz E x = v) (h : LW P n ops Q rest (nm E d v) W) (a : d < n := by decide) : LW P n ops Q (⟨some d, .move x, ty, pos, af, none⟩ :: rest) E W := V (jx b) h a
theorem Wg (b : jz E x = v) (h : LW P n ops Q rest (nm E d v) W) (a : d < n := by decide) : LW P n ops Q (⟨some d, .assign x, ty, pos, af, none⟩ :: rest) E W := V (ma b) h a
theorem Wx {i : Nat} (a : QT i (jz E x) = some v) (h : LW P n ops Q rest (nm E d v) W) (b : d < n := by decide) : LW P n ops Q (⟨some d, .extract x i, ty, pos, af, none⟩ :: rest) E W := by
 unfold QT at a; split at a
 ·rename_i vs e; exact V (qa e a) h b
 ·cases a
theorem Wi {op : BinOp} {p m : TypeId} (g : MX op (jz E x) (jz E y) = some v) (h : LW P n ops Q rest (nm E d v) W) (l : d < n := by decide) : LW P n ops Q (⟨some d, .binOp op p x y m, ty, pos, af, none⟩ :: rest) E W := by
 unfold MX at g; split at g
 ·rename_i k a k' b i j
  split at g
  ·rename_i e; subst e; exact V (ko i j g) h l
  ·cases g
 ·cases g
theorem Wf {t : TypeId} {f off : Nat} (a : lC P t f off) (h : LW P n ops Q rest (nm E d (QN off (jz E x))) W) (hp : Iu (jz E x) = true := by exact rfl) (g : d < n := by decide) : LW P n ops Q (⟨some d, .fieldAddr t x f, ty, pos, af, none⟩ :: rest) E W := by
 obtain ⟨b, k, e⟩ := HK hp
 refine V (jB a e) ?_ g
 rw [e] at h; exact h
theorem Wn (h : LW P n ops Q rest (nm E d (jz E x)) W) (hp : Iu (jz E x) = true := by exact rfl) (a : d < n := by decide) : LW P n ops Q (⟨some d, .nilCheck x, ty, pos, af, none⟩ :: rest) E W := by
 obtain ⟨b, k, e⟩ := HK hp
 refine V (mJ e) ?_ a
 rw [e] at h; exact h
theorem un (h : b = !want) (k : LW P n ops Q rest (nm E d undef) W) (g : (ops[j]?).bind (·.dst) = some t := by exact rfl) (a : E t = .bool b := by exact rfl) (l : t < n := by decide) (i : d < n := by decide) :
  LW P n ops Q (⟨some d, ins, ty, pos, af, some (j, want)⟩ :: rest) E W := Vn g (by rw [a, h]) k l i
theorem ug (h : b = want) (l : lD P E ⟨some d, ins, ty, pos, af, some (j, want)⟩ W v W) (k : LW P n ops Q rest (nm E d v) W) (g : (ops[j]?).bind (·.dst) = some t := by exact rfl) (a : E t = .bool b := by exact rfl) (m : t < n := by decide) (i : d < n := by decide) :
  LW P n ops Q (⟨some d, ins, ty, pos, af, some (j, want)⟩ :: rest) E W := Vg g (by rw [a, h]) l k m i
theorem ue (h : b = want) (k : mL P E ⟨some d, ins, ty, pos, af, some (j, want)⟩ W fun v W' => LW P n ops Q rest (nm E d v) W') (g : (ops[j]?).bind (·.dst) = some t := by exact rfl) (a : E t = .bool b := by exact rfl) (l : t < n := by decide) (i : d < n := by decide) :
  LW P n ops Q (⟨some d, ins, ty, pos, af, some (j, want)⟩ :: rest) E W := KP g (by rw [a, h]) k l i
section
variable {dd : Bool} {F : Nat → Prop} {w : World} {μ : jN} {L : List (Nat × Obj)} {T : TypeId} {a off : Nat} {cs : Array Value} {fr : Nat × Nat}
theorem VA {t : TypeId} (b : ST dd F w W μ L) (i : (a, Obj.cells cs T fr) ∈ L) (ys : List Value) (g : ∀ w, (isAgg t).run P w = .ok true w) (j : ∀ w, (sizeOf t).run P w = .ok ys.length w) (h : LW P n ops Q rest (nm E d (.agg ys.toArray)) W) (l : jz E x = .pointer (some ⟨a, off, none⟩) := by exact rfl) (m : (cs.toList.drop off).take ys.length = ys := by exact rfl) (k : d < n := by decide) : LW P n ops Q (⟨some d, .load t x, ty, pos, af, none⟩ :: rest) E W := V (jt l (jA b.has i ys m g j)) h k
theorem VB {t : TypeId} (b : ST dd F w W μ L) (i : (a, Obj.cells cs T fr) ∈ L) (k : jz E x = .pointer (some ⟨a, off, none⟩)) (l : cs[off]? = some v) (g : ∀ w, (isAgg t).run P w = .ok false w) (h : LW P n ops Q rest (nm E d v) W) (j : d < n := by decide) : LW P n ops Q (⟨some d, .load t x, ty, pos, af, none⟩ :: rest) E W := V (jt k (jG b.has i l g)) h j
end
section
variable {K : (Nat → Value) → World → Prop} {Q' : nr} {c : Code} {id id2 : Nat} {l : List Oper} {z : Code}
theorem sg (h : LW P n l.toArray (oZ (fun E W => CW P n c Q E W) Q) l E W) : CW P n (.seq (.region id l.toArray false) c) Q E W := jI (jC h)
theorem ln (h : K E W) : LW P n ops (oZ K Q) [] E W := jU (jH h)
theorem lr (h : LW P n l.toArray (oZ (fun E W => CW P n c Q E W) Q) l E W) : LW P n ops (oZ (fun E W => CW P n (.seq (.region id l.toArray false) c) Q E W) Q') [] E W := jU (jH (jI (jC h)))
theorem lS (h : LW P n l.toArray (oZ (fun E W => CW P n c (oZ (fun E W => CW P n z Q E W) Q) E W) (oZ (fun E W => CW P n z Q E W) Q)) l E W) : LW P n ops (oZ (fun E W => CW P n (.seq (.seq (.region id l.toArray false) c) z) Q E W) Q') [] E W := jU (jH (jI (jI (jC h))))
theorem bg (h : LW P n l.toArray (oZ (fun E W => CW P n c (ur id2 Q) E W) (ur id2 Q)) l E W) : CW P n (.block id2 (.seq (.region id l.toArray false) c)) Q E W := kX (jI (jC h))
theorem kg (h : LW P n l.toArray (oZ (fun E W => CW P n c Q E W) Q) l E W) : CW P n .skip (oZ (fun E W => CW P n (.seq (.region id l.toArray false) c) Q E W) Q') E W := lJ (jH (jI (jC h)))
theorem kS (h : LW P n l.toArray (oZ (fun E W => CW P n c (oZ (fun E W => CW P n z Q E W) Q) E W) (oZ (fun E W => CW P n z Q E W) Q)) l E W) : CW P n .skip (oZ (fun E W => CW P n (.seq (.seq (.region id l.toArray false) c) z) Q E W) Q') E W := lJ (jH (jI (jI (jC h))))
theorem lt (h : Q .ret E W) : LW P n ops (oZ (fun E W => CW P n .ret Q E W) Q') [] E W := jU (jH (kv h))
theorem kn (h : K E W) : CW P n .skip (oZ K Q) E W := lJ (jH h)
end
end
theorem pq.OS {α : Type} {dd : Bool} {w W : World} {μ : jN} {L R : List (Nat × Obj)} {e : TypeId} {enc : α → List Value} {k : Nat} {v : Value} {l : List α} (h : pq e enc k v l R) (d : ST dd kK w W μ L) (j : ∀ p, p ∈ R → p ∈ L) : Fr w.heap.size v := by
 rcases h with ⟨rfl, rfl, rfl⟩ | ⟨g, off, cap, a, rfl, rfl, h1, m, n, q⟩
 ·exact Fr.nil _
 ·intro b i
  simp [Value.ownBlock] at i
  subst i
  rcases (d.box g (.cells a e (0, 0)) (j _ (bM.2 rfl))).2.2 with h | h
  ·exact h
  ·exact h.elim
theorem Jk.mono {α β : Type} {P : Program} {fv : Value} {μ μ0 : jN} {a : α → List Value} {b : β → Value} {pm : α → Option β} (h : Jk P fv μ a b pm) (i : jR μ μ0) : Jk P fv μ0 a b pm := by
 obtain ⟨f, caps, h1, d, g⟩ := h
 exact ⟨f, caps, h1, d, fun W x r h => g W x r (i.trans h)⟩
theorem Jk.form {α β : Type} {P : Program} {fv : Value} {μ : jN} {d : α → List Value} {g : β → Value} {pm : α → Option β} (h : Jk P fv μ d g pm) : ∃ f a b, fv = .func f a b := let ⟨f, b, h, _⟩ := h; ⟨_, _, b, h⟩
def wT {σ ρ α : Type} (fs : σ → α → Option (σ ⊕ ρ)) : σ ⊕ ρ → α → Option (Bool × (σ ⊕ ρ))
 | .inl s, x => (fs s x).map fun | .inl s' => (true, .inl s') | .inr q => (false, .inr q)
 | .inr _, _ => none
end Go.Proofs.YtjjjihkifgdhgaaGreat
namespace Go.Proofs.YtjjjihkifgdhgaaGreat
open Go.IntKind renaming wrap → wi0
open Go.RowKit
section
variable {P : Program} {n : Nat} {E : Nat → Value} {W : World} {c y : Code} {a : Act} {cs : List Frame} {Q : Exit → Act → List Frame → World → Prop}
theorem N5 {args : List Value} {fn : Func} {n : Nat} (b : fn.ntmps = n) (h : args.length ≤ n) : Ag n { tmps := args.toArray ++ Array.replicate (fn.ntmps - args.toArray.size) undef, defers := [] } (xH args) := by
 refine ⟨by simp; omega, rfl, fun t => ?_⟩
 simp only [xH, dV, List.getD_eq_getElem?_getD, gC, Array.getElem?_replicate, dx, fE]
 by_cases a : t < args.length
 ·rw [aZ a]
 ·rw [aY a, eP (by omega)]
  split <;> simp
end
theorem ou.form {κ γ : Type} {kenc : κ → Value} {Q : Value → γ → List (Nat × Obj) → Prop} {μ : jN} {v : Value} {l : List (κ × γ)} (h : ou kenc Q μ v l) : ∃ m, v = .map m := by
 obtain ⟨a, R, h, _⟩ := h
 obtain ⟨m, rfl⟩ := h.form
 exact ⟨_, rfl⟩
theorem lZ.mono {dd : Bool} {P : Program} {f : FuncId} {args : List Value} {w : World} {μ0 : jN} {L0 : List (Nat × Obj)} {K K' : Value → List (Nat × Obj) → jN → Prop} (h : lZ dd P f args w μ0 L0 K) (hk : ∀ v L1 μ1, jR μ0 μ1 → K v L1 μ1 → K' v L1 μ1) : lZ dd P f args w μ0 L0 K' :=
 cT h fun _ _ ⟨v, L1, μ1, h1, b, a, d, g, i⟩ => ⟨v, L1, μ1, h1, b, a, d, g, hk _ _ _ a i⟩
theorem MK {M : Md} {n : Nat} {P : Program} {l : Nat} {f : FuncId} {tmps : Array Value} {ax body : Code} {w : World} {R : Ending → World → Prop} : RoundIn M.F n P l f tmps ax body w R ↔ RoundIn Fence.wide n P l f tmps ax body w R := Iff.rfl
def QP (P : Program) (E : Nat → Value) (o : Oper) (W : World) (K : Value → World → Prop) : Prop :=
 ∃ l fn tmps ax body, (execOp (jz E) o).run P W = .ok (.round l fn tmps ax body) W ∧ RoundIn Fence.wide 0 P l fn tmps ax body W fun e a => ∃ v, e = .returned v ∧ K v a
section
variable [M : Md] {P : Program} {n : Nat} {Q : nr} {E : Nat → Value} {W : World} {ops : Array Oper} {rest : List Oper} {o : Oper}
theorem SQ {dd : Nat} (hw : rE n ops E o) (d : o.dst = some dd) (i : dd < n) (h : QP P E o W fun v W' => LW P n ops Q rest (nm E dd v) W') : LW P n ops Q (o :: rest) E W := fun a ha => by
 obtain ⟨l, fn, tmps, ax, body, h1, b⟩ := h
 unfold wpListIn
 rw [aZ (hw.of ha)]
 unfold Oper.wpIn
 refine ⟨fun _ _ => trivial, ?_⟩
 rw [ha.eval, xk h1 (by simp), Oper.uponIn_round]
 refine ⟨fun e => (nomatch (show (none : Option Nat).isSome = true from e)), RoundIn.mono (MK.2 b) ?_⟩
 rintro e j ⟨v, rfl, g⟩
 simp only [d]
 exact g _ (ha.put i v)
end
abbrev Gl (l : Nat) : Md := ⟨some l, []⟩
abbrev KV (D : List Deferred) : Md := ⟨none, D⟩
def Sq (n : Nat) (Q : List Deferred → nr) (e : Exit) (a : Act) (w : World) : Prop := ∃ D, @lift (KV D) n (Q D) e a w
def FR (P : Program) (n : Nat) (c : Code) (Q : List Deferred → nr) (E : Nat → Value) (W : World) : Prop := ∀ a, @Ag xI n a E → c.wpIn Fence.wide 0 P (Sq n Q) a W
def QZ (E : Nat → Value) (l : List (Nat × Value)) : Nat → Value := l.foldl (fun E p => nm E p.1 p.2) E
def QM (l : Nat) (K : Value → World → Prop) : nr
 | .normal, _, w => ∃ r, w.heap[l]? = some (.loop r) ∧ K (.bool true) (w.putObj l (.loop { r with state := .ready, pending := none }))
 | .ret, _, w => ∃ r, w.heap[l]? = some (.loop r) ∧ K (.bool false) (w.putObj l (.loop { r with state := .done, pending := some .ret }))
 | .exit id, _, w => ∃ r, w.heap[l]? = some (.loop r) ∧ K (.bool false) (w.putObj l (.loop { r with state := .done, pending := some (.exit id) }))
 | _, _, _ => False
def Oe (l : Nat) (Q : nr) (E : Nat → Value) (w : World) : Prop :=
 ∃ r, w.heap[l]? = some (.loop r) ∧ r.state ≠ .busy ∧
  ((r.pending = none ∧ Q .normal E (w.putObj l (.loop { r with state := .exhausted }))) ∨ (r.pending = some .ret ∧ Q .ret E (w.putObj l (.loop { r with state := .exhausted }))) ∨
   (∃ id, r.pending = some (.exit id) ∧ Q (.exit id) E (w.putObj l (.loop { r with state := .exhausted }))))
section
variable {P : Program} {n : Nat} {Q : List Deferred → nr} {E : Nat → Value} {W : World} {c x y : Code}
theorem xw (h : @CW xI P n x (oZ (fun E W => FR P n y Q E W) (Q [])) E W) : FR P n (.seq x y) Q E W := fun a ha =>
 wpIn_seq (fc (h a ha) (fun e d i h => by
  cases e with
  | normal => obtain ⟨E', b, g⟩ := h; exact g d b
  | _ => exact ⟨[], h⟩))
theorem NB (h : FR P n x (fun D => oZ (fun E W => @CW (KV D) P n y (Q D) E W) (Q D)) E W) : FR P n (.seq x y) Q E W := fun a ha =>
 wpIn_seq (fc (h a ha) (fun e d i ⟨D, h⟩ => by
  cases e with
  | normal => obtain ⟨E', b, g⟩ := h; exact fc (g d b) (fun _ _ _ h => ⟨D, h⟩)
  | _ => exact ⟨D, h⟩))
theorem Hz {id : Nat} (h : FR P n c (fun D => ur id (Q D)) E W) : FR P n (.block id c) Q E W := fun a ha =>
 wpIn_block (fc (h a ha) (fun e i k ⟨D, h⟩ => by
  cases e with
  | exit j =>
   obtain ⟨E', b, d⟩ := h
   simp only [Exit.inBlock]
   simp only [ur] at d
   split at d
   ·rename_i g; rw [aZ g]; exact ⟨D, E', b, d⟩
   ·rename_i g; rw [aY g]; exact ⟨D, E', b, d⟩
  | _ => exact ⟨D, h⟩))
theorem KN {M : Md} : ∀ (l : List (Nat × Value)) {a : Act} {E : Nat → Value}, @Ag M n a E → (∀ p ∈ l, p.1 < n) → @Ag M n { a with tmps := l.foldl (fun t p => t.setIfInBounds p.1 p.2) a.tmps } (QZ E l)
 | [], _, _, h, _ => h
 | p :: l, a, E, h, hp => by
  have h1 : @Ag M n { a with tmps := a.tmps.setIfInBounds p.1 p.2 } (nm E p.1 p.2) := Ag.put h (hp p (gh ..)) p.2
  exact KN l h1 (fun q b => hp q (dm _ b))
theorem Ie {g : Operand} {k : Array Tmp} {assign body : Code} {f : FuncId} {caps : Array Value} (p : jz E g = .func (.func f) #[] caps) (he : ∀ args w, (callFunc f args).run P w = .ok (.enter f args) w) (h : ∀ (fn : FuncId) (tmps : Array Value), tmps.size = n → (∀ t, tmps.getD t undef = E t) →
   Calls P f (#[.func (.yield (W.heap.size + 1)) #[] #[]] ++ caps) ((W.alloc (.deferred (some []))).alloc (.loop { state := .ready, pending := none, fn, tmps, params := k, assign, body, defers := W.heap.size }))
    fun e w => (∃ v, e = .returned v) ∧ Oe (W.heap.size + 1) (Q [{ target := .collected W.heap.size, args := #[] }]) E w) : FR P n (.rangeFunc g k assign body) Q E W := fun a ha => by
 refine wpIn_rangeFunc fun fn _ => ?_
 have j : resolve a.eval (rangeCall g (W.heap.size + 1)) 0 = pure { target := .fn (.func f) caps, args := #[.func (.yield (W.heap.size + 1)) #[] #[]] } := by
  rw [Ag.eval ha]
  simp only [resolve, rangeCall]
  rw [p]
  simp [Deferred.ofValue, jz]
 refine ⟨_, _, _, ⟨.fn (.func f) caps, #[.func (.yield (W.heap.size + 1)) #[] #[]]⟩, _, f, #[.func (.yield (W.heap.size + 1)) #[] #[]] ++ caps, _, run_enterLoop_outer fn a.tmps k assign body, by rw [j]; rfl, fun _ _ => trivial, (by rw [show invoke (.fn (.func f) caps) #[.func (.yield (W.heap.size + 1)) #[] #[]] = callFunc f (#[.func (.yield (W.heap.size + 1)) #[] #[]] ++ caps) from rfl]; exact he _ _), fun e => (nomatch (show (none : Option Nat).isSome = true from e)), ?_⟩
 refine gr.2 (cT (h fn a.tmps ha.1 ha.2.2) ?_)
 rintro e w ⟨⟨v, rfl⟩, ⟨st, pe, q, rt, u, r, s, rd⟩, h1, m, l⟩
 refine ⟨_, _, run_endLoop h1 m, ?_⟩
 simp only at l
 have b : @Ag (KV [{ target := .collected W.heap.size, args := #[] }]) n { a with defers := [{ target := .collected W.heap.size, args := #[] }] ++ a.defers } E := ⟨ha.1, by show _ ++ a.defers = _; rw [show a.defers = [] from ha.2.1]; rfl, ha.2.2⟩
 rcases l with ⟨d, i⟩ | ⟨d, i⟩ | ⟨id, d, i⟩
 ·subst d; exact ⟨_, E, b, i⟩
 ·subst d; exact wpIn_ret ⟨_, E, b, i⟩
 ·subst d; exact wpIn_exit ⟨_, E, b, i⟩
structure Nq (n : Nat) (ps : List Nat) (assign body : Code) (E : Nat → Value) (Lp : Loop) : Prop where
 st : Lp.state = .ready
 pe : Lp.pending = none
 params : Lp.params.toList = ps
 ax : Lp.assign = assign
 bo : Lp.body = body
 sz : Lp.tmps.size = n
 ev : ∀ t, Lp.tmps.getD t undef = E t
theorem Hx {dd : Bool} {F : Nat → Prop} {w : World} {μ : jN} {L : List (Nat × Obj)} {g : Operand} {b : Array Tmp} {assign body : Code} {f : FuncId} {caps : Array Value} (a : ST dd F w W μ L) (j : jz E g = .func (.func f) #[] caps) (he : ∀ args w, (callFunc f args).run P w = .ok (.enter f args) w) (h : ∀ (l d : Nat) (Lp : Loop) (W1 : World), Nq n b.toList assign body E Lp → ST dd F w W1 μ ((l, .loop Lp) :: (d, .deferred (some [])) :: L) →
   Calls P f (#[.func (.yield l) #[] #[]] ++ caps) W1 fun e w => (∃ v, e = .returned v) ∧ Oe l (Q [{ target := .collected d, args := #[] }]) E w) : FR P n (.rangeFunc g b assign body) Q E W :=
 Ie j he fun fn tmps k i => by
  have h1 := (a.alloc (.deferred (some []))).alloc (.loop { state := .ready, pending := none, fn, tmps, params := b, assign, body, defers := W.heap.size })
  rw [World.size_alloc] at h1
  exact h _ _ _ _ ⟨rfl, rfl, rfl, rfl, rfl, k, i⟩ h1
theorem Ib {l : Nat} {f : FuncId} {tmps : Array Value} {assign body : Code} {K : Value → World → Prop} (k : tmps.size = n) (i : ∀ t, tmps.getD t undef = E t) (h : @CW (Gl l) P n assign (fun e E1 W1 => e = .normal ∧ ∃ r, W1.heap[l]? = some (.loop r) ∧ r.state = .ready ∧ @CW (Gl l) P n body (QM l K) E1 (W1.putObj l (.loop { r with state := .busy }))) E W) :
  RoundIn Fence.wide 0 P l f tmps assign body W fun e m => ∃ v, e = .returned v ∧ K v m := by
 refine roundIn_of_wpIn trivial (fc (h _ ⟨k, rfl, i⟩) ?_)
 intro e a w b
 cases e with
 | normal =>
  obtain ⟨E1, ha, _, r, h1, d, g⟩ := b
  refine ⟨_, run_beginRound h1 d, fc (g a ha) ?_⟩
  intro e a w b
  cases e with
  | normal => obtain ⟨E2, _, r, h1, d⟩ := b; exact ⟨_, _, run_endRound none h1, _, rfl, d⟩
  | ret => obtain ⟨E2, _, r, h1, d⟩ := b; exact ⟨_, _, run_endRound (some .ret) h1, _, rfl, d⟩
  | exit id => obtain ⟨E2, _, r, h1, d⟩ := b; exact ⟨_, _, run_endRound (some (.exit id)) h1, _, rfl, d⟩
  | goto t => obtain ⟨E2, _, h⟩ := b; exact h.elim
  | panic c => exact b.2.elim
  | outgrown => exact b.elim
 | panic c => exact absurd b.2.1 (by simp)
 | outgrown => exact b.elim
 | _ => obtain ⟨E', j, h1, _⟩ := b; cases h1
def Io (P : Program) (fn : Func) (R : Ending → World → Prop) (D : List Deferred) : nr := fun e E W =>
 (D = [] ∧ tz P fn R e E W) ∨ ∃ d, D = [{ target := .collected d, args := #[] }] ∧ W.heap[d]? = some (.deferred (some [])) ∧ tz P fn R e E (W.putObj d (.deferred none))
theorem Ej {f : FuncId} {fn : Func} {args : List Value} {w : World} {R : Ending → World → Prop} (r : P.funcs[f]? = some fn) (q : fn.body = some c) (s : fn.ntmps = n) (ha : args.length ≤ n) (h : FR P n c (fun D => Io P fn R D) (xH args) w) : Calls P f args.toArray w R := by
 refine gr.1 (callsIn_of_wp_marks (n := 0) r q trivial (fc (h _ (N5 s ha)) ?_))
 intro e a w ⟨D, b⟩
 have key : ∀ (E : Nat → Value) (e : Exit), (e = .normal ∨ e = .ret) → @Ag (KV D) n a E → Io P fn R D e E w → LeavesInM Fence.wide 0 P fn a.tmps R a.defers .returning w := by
  intro E e he j u
  rw [j.2.1]
  show LeavesInM Fence.wide 0 P fn a.tmps R D .returning w
  have k : ∀ w, tz P fn R e E w → LeavesInM Fence.wide 0 P fn a.tmps R [] .returning w := fun w h => by
   have i : ∃ v, (∀ tmps : Array Value, (∀ t, tmps.getD t undef = E t) → (results fn tmps).run P w = .ok v w) ∧ R (.returned v) w := by
    rcases he with rfl | rfl <;> exact h
   obtain ⟨v, m, p⟩ := i
   exact ⟨v, m _ j.2.2, p⟩
  rcases u with ⟨rfl, h⟩ | ⟨d, rfl, h1, i⟩
  ·exact k _ h
  ·refine ⟨by simp, .inl ⟨d, _, rfl, run_takeDeferred h1, k _ i⟩⟩
 cases e with
 | normal => obtain ⟨E, g, h⟩ := b; exact key E _ (.inl rfl) g h
 | ret => obtain ⟨E, g, h⟩ := b; exact key E _ (.inr rfl) g h
 | exit id => obtain ⟨E, g, h⟩ := b; rcases h with ⟨_, h⟩ | ⟨_, _, _, h⟩ <;> exact h.elim
 | goto l => obtain ⟨E, g, h⟩ := b; rcases h with ⟨_, h⟩ | ⟨_, _, _, h⟩ <;> exact h.elim
 | panic c => rcases b.2 with ⟨_, h⟩ | ⟨_, _, _, h⟩ <;> exact h.elim
 | outgrown => exact b.elim
end
def Ft {σ ρ : Type} (l : Nat) (Lp : Loop) (I : σ → List (Nat × Obj) → Prop) (X : ρ → List (Nat × Obj) → Prop) : σ ⊕ ρ → List (Nat × Obj) → Prop
 | .inl s, R => ∃ R0, R = (l, .loop Lp) :: R0 ∧ I s R0
 | .inr q, R => ∃ R0 r, R = (l, .loop r) :: R0 ∧ r.state = .done ∧ r.pending = some .ret ∧ X q R0
def Qo (P : Program) (E : Nat → Value) (o : Oper) (W : World) (K : Value → World → Prop) : Prop := mL P E o W K ∨ QP P E o W K
section
variable [M : Md] {P : Program} {n : Nat} {Q : nr} {E : Nat → Value} {W : World} {ops : Array Oper} {rest : List Oper}
theorem TI {d t j : Nat} {want : Bool} {ins : Op} {ty : TypeId} {pos : String} {af : Array Edge} (b : (ops[j]?).bind (·.dst) = some t) (a : E t = .bool want) (h : Qo P E ⟨some d, ins, ty, pos, af, some (j, want)⟩ W fun v W' => LW P n ops Q rest (nm E d v) W') (i : t < n := by decide) (g : d < n := by decide) : LW P n ops Q (⟨some d, ins, ty, pos, af, some (j, want)⟩ :: rest) E W := by
 rcases h with h | h
 ·exact KP b a h i g
 ·exact SQ (.inr ⟨j, want, t, rfl, b, i, a⟩) rfl g h
end
def zH {σ α β : Type} (P : Program) (fv : Value) (μ : jN) (Inv : σ → List (Nat × Obj) → Prop) (Ra : jN → List Value → α → Prop) (a : β → Value) (fs : σ → α → Option (β × σ)) : Prop :=
 (∃ f caps, fv = .func (.func f) #[] caps ∧ (∀ args w, (callFunc f args).run P w = .ok (.enter f args) w) ∧
  ∀ W s x vs r R, jR μ (pB W R) → Inv s R → zz R W → (R.map (·.1)).Nodup → Ra (pB W R) vs x → fs s x = some r → kA false P f (vs ++ caps.toList) W R (fun v R' _ => v = a r.1 ∧ Inv r.2 R')) ∨
 (∃ l, fv = .func (.yield l) #[] #[] ∧
  ∀ W s x vs r R, jR μ (pB W R) → Inv s R → zz R W → (R.map (·.1)).Nodup → Ra (pB W R) vs x → fs s x = some r →
   ∃ fn tmps ax body, (Instr.yield l vs.toArray).run P W = .ok (.round l fn tmps ax body) W ∧
    RoundIn Fence.wide 0 P l fn tmps ax body W fun e b => ∃ v R', e = .returned v ∧ qK false R R' W b ∧ v = a r.1 ∧ Inv r.2 R')
section
variable {P : Program} {F : Nat → Prop} {w W : World} {μ : jN} {L : List (Nat × Obj)} {E : Nat → Value} {d : Option Nat} {ty : TypeId} {pos : String} {af : Array Edge} {g : Option (Nat × Bool)}
theorem zH.fn {σ α β : Type} {f : FuncId} {caps : Array Value} {Inv : σ → List (Nat × Obj) → Prop} {Ra : jN → List Value → α → Prop} {a : β → Value} {fs : σ → α → Option (β × σ)} (b : ∀ args w, (callFunc f args).run P w = .ok (.enter f args) w) (h : ∀ W s x vs r R, jR μ (pB W R) → Inv s R → zz R W → (R.map (·.1)).Nodup → Ra (pB W R) vs x → fs s x = some r → kA false P f (vs ++ caps.toList) W R (fun v R' _ => v = a r.1 ∧ Inv r.2 R')) : zH P (.func (.func f) #[] caps) μ Inv Ra a fs := .inl ⟨f, caps, rfl, b, h⟩
theorem zH.mono {σ α β : Type} {fv : Value} {μ0 : jN} {Inv : σ → List (Nat × Obj) → Prop} {Ra : jN → List Value → α → Prop} {d : β → Value} {fs : σ → α → Option (β × σ)} (h : zH P fv μ Inv Ra d fs) (b : jR μ μ0) : zH P fv μ0 Inv Ra d fs := by
 rcases h with ⟨f, caps, h1, a, g⟩ | ⟨l, h1, a⟩
 ·exact .inl ⟨f, caps, h1, a, fun W s x vs r R h => g W s x vs r R (b.trans h)⟩
 ·exact .inr ⟨l, h1, fun W s x vs r R h => a W s x vs r R (b.trans h)⟩
theorem Qv {σ α β : Type} {K : Value → World → Prop} {μ0 : jN} {fv : Value} {Inv : σ → List (Nat × Obj) → Prop} {Ra : jN → List Value → α → Prop} {G : β → Value} {fs : σ → α → Option (β × σ)} {j : Operand} {ax : Array Operand} {ats : Array TypeId} (s : σ) (x : α) {vs : List Value} {r : β × σ} {R : List (Nat × Obj)} (L2 : List (Nat × Obj)) (a : ST false F w W μ L) (b : L.Perm (R ++ L2)) (Y : zH P fv μ0 Inv Ra G fs) (z : jR μ0 μ) (t : Inv s R) (u : jR μ (pB W R) → Ra (pB W R) vs x) (y : jz E j = fv) (ha : ax.map (jz E) ++ (#[] : Array Value) = vs.toArray) (hm : fs s x = some r) (h : ∀ W' μ' R', ST false F w W' μ' (R' ++ L2) → jR μ μ' → Lo F w μ μ' → Inv r.2 R' → K (G r.1) W') : Qo P E ⟨d, .call ⟨.value j, ax, ats⟩, ty, pos, af, g⟩ W K := by
 rcases Y with ⟨f, caps, rfl, k, m⟩ | ⟨l, rfl, k⟩
 ·refine .inl (Ez R L2 a b y k ha (fun I a2 a3 _ => (m W s x vs r R (z.trans a3) t I a2 (u a3) hm)) ?_)
  rintro W' v μ' L1 J M O _ ⟨rfl, Q⟩
  exact h W' μ' L1 J M O Q
 ·have p : ax.map (jz E) = vs.toArray := by simpa using ha
  obtain ⟨fn, tmps, i, body, m, T⟩ := k W s x vs r R (z.trans (a.Jx b)) t (a.held b) (a.Lt b) (u (a.Jx b)) hm
  refine .inr ⟨l, fn, tmps, i, body, ?_, RoundIn.mono T ?_⟩
  ·show (do let d ← resolve (jz E) ⟨.value j, ax, ats⟩ ty; invoke d.target d.args : Sem Next).run P W = _
   rw [← m]
   simp [resolve, y, p, Deferred.ofValue, invoke]
  ·rintro e q ⟨v, R', rfl, U, rfl, n⟩
   exact ⟨_, rfl, h q _ R' ((a.perm b).back U) ((a.perm b).AV q R') ((a.perm b).CS q R') n⟩
end
def fi := @World.putObj_heap_same
def Q0 (K : Value → World → Prop) : nr
 | .ret, _, W => K (.bool false) W
 | _, _, _ => False
def RW (K : Value → World → Prop) : nr := oZ (fun _ W => K (.bool true) W) (Q0 K)
def Lz (dd : Bool) (P : Program) (n l : Nat) (assign body : Code) (E : Nat → Value) (w : World) (L0 : List (Nat × Obj)) (K : Value → List (Nat × Obj) → World → Prop) : Prop :=
 @CW (Gl l) P n assign (oZ (fun E1 W1 => W1.heap[l]? = w.heap[l]? ∧ ∀ o, @CW (Gl l) P n body (RW fun v W => ∃ L1, qK dd L0 L1 (w.putObj l o) W ∧ K v L1 W) E1 (W1.putObj l o)) (fun _ _ _ => False)) E w
theorem KZ {K : Value → World → Prop} {E : Nat → Value} {W : World} (h : K (.bool false) W) : Q0 K .ret E W := h
section
variable {dd : Bool} {F : Nat → Prop} {w W : World} {μ : jN} {L : List (Nat × Obj)} {l : Nat}
theorem uS {w : World} {b : Nat} {o : Obj} (h : b ≠ l) : (w.putObj l o).heap[b]? = w.heap[b]? := World.putObj_heap_other h
theorem ST.frame (h : ST dd F w W μ L) (o : Obj) (k : l < w.heap.size) (j : ¬ F l) (hm : μ l = none) : ST dd F (w.putObj l o) (W.putObj l o) μ L := by
 refine ⟨h.os, h.tape, h.output, h.drawn, by simpa using h.size, fun b d m => ?_, fun b x d => ?_, fun b x d => ?_, h.nd⟩
 ·by_cases a : b = l
  ·subst a
   rw [fi (by have := h.size; omega), fi k]
  ·rw [uS a, uS a]
   exact h.lO b (by simpa using d) m
 ·have a : b ≠ l := fun e => by rw [e, hm] at d; cases d
  rw [uS a]; exact h.mem b x d
 ·obtain ⟨h1, i, g⟩ := h.box b x d
  have a : b ≠ l := fun e => by
   subst e
   rcases g with g | g
   ·omega
   ·exact j g
  rw [uS a]
  exact ⟨h1, i, by simpa using g⟩
theorem qK.Ku {L0 L1 : List (Nat × Obj)} {o o' Lp : Obj} (h : qK false L0 L1 (w.putObj l o) W) (r : w.heap[l]? = some Lp) (n : ¬ keys L0 l) : W.heap[l]? = some o ∧ qK false ((l, Lp) :: L0) ((l, o') :: L1) w (W.putObj l o') := by
 have j : l < w.heap.size := na r
 have h1 : W.heap[l]? = some o := by
  rw [h.ex.lO l (by simpa using j) n, fi j]
 have m : w.heap.size ≤ W.heap.size := by have := h.ex.size; simpa using this
 have i : ¬ keys L1 l := by
  rintro ⟨x, a⟩
  rcases (h.held l x a).2 with g | g
  ·simp at g; omega
  ·exact n g
 refine ⟨h1, ⟨h.ex.os, h.ex.tape, h.ex.output, h.ex.drawn, by simpa using m, fun b q hk => ?_⟩, fun b x a => ?_, ?_⟩
 ·have d : b ≠ l := fun e => hk (by subst e; exact ⟨_, gh ..⟩)
  rw [uS d, h.ex.lO b (by simpa using q) (fun ⟨x, a⟩ => hk ⟨x, dm _ a⟩), uS d]
 ·rcases aK.1 a with a | a
  ·cases a
   exact ⟨fi (by omega), .inr ⟨_, gh ..⟩⟩
  ·have d : b ≠ l := fun e => i ⟨x, e ▸ a⟩
   obtain ⟨g, k⟩ := h.held b x a
   rw [uS d]
   refine ⟨g, ?_⟩
   rcases k with k | ⟨y, s⟩
   ·exact .inl (by simpa using k)
   ·exact .inr ⟨y, dm _ s⟩
 ·rw [bD, cR]
  refine ⟨fun hm => ?_, h.nd⟩
  obtain ⟨p, hp, e⟩ := bF.1 hm
  have e' : p.1 = l := e
  exact i ⟨p.2, by rw [← e']; exact hp⟩
end
section
variable {σ ρ α : Type} {P : Program} {n l : Nat} {Lp : Loop} {μ : jN} {I : σ → List (Nat × Obj) → Prop} {X : ρ → List (Nat × Obj) → Prop} {Ra : jN → List Value → α → Prop} {fs : σ → α → Option (σ ⊕ ρ)} {E : Nat → Value}
def KH (I : σ → List (Nat × Obj) → Prop) (X : ρ → List (Nat × Obj) → Prop) (r : σ ⊕ ρ) (v : Value) (L1 : List (Nat × Obj)) : Prop :=
 match r with
 | .inl s => v = .bool true ∧ I s L1
 | .inr q => v = .bool false ∧ X q L1
theorem HI {L : List Nat} {assign body : Code} (U : Nq n L assign body E Lp) (aa : ∀ μ vs x, Ra μ vs x → vs.length = L.length) (a7 : ∀ p ∈ L, p < n) (h : ∀ W s x vs r R0 μ', jR μ μ' → μ' l = none → l < W.heap.size → ¬ keys R0 l → I s R0 → ST false (keys R0) W W μ' R0 → Ra μ' vs x → fs s x = some r →
   Lz false P n l assign body (QZ E (L.zip vs)) W R0 (fun v L1 _ => KH I X r v L1)) :
  zH P (.func (.yield l) #[] #[]) μ (Ft l Lp I X) Ra (fun b => .bool b) (wT fs) := by
 obtain ⟨hr, hp, rfl, rfl, rfl, ht, hE⟩ := U
 refine .inr ⟨l, rfl, fun W s x vs r R hs T hH J k hf => ?_⟩
 cases s with
 | inr q => cases hf
 | inl s =>
  obtain ⟨R0, rfl, T⟩ := T
  simp only [wT, Option.map_eq_some_iff] at hf
  obtain ⟨z, a1, G⟩ := hf
  have w : W.heap[l]? = some (.loop Lp) := hH _ _ (.head _)
  have j : ¬ keys R0 l := by
   rw [bD, cR] at J
   rintro ⟨o, d⟩
   exact J.1 (bF.2 ⟨_, d, rfl⟩)
  have m := KN (M := Gl l) (Lp.params.toList.zip vs) (a := ⟨Lp.tmps, []⟩) (E := E) ⟨ht, rfl, hE⟩ (fun p hp => a7 _ (List.of_mem_zip hp).1)
  refine ⟨_, _, _, _, run_yield w (by simpa using aa _ _ _ k), ?_⟩
  have ez : (Lp.params.zip vs.toArray).foldl (fun tmps (t, a) => tmps.setIfInBounds t a) Lp.tmps = (Lp.params.toList.zip vs).foldl (fun t p => t.setIfInBounds p.1 p.2) Lp.tmps := by
   rw [← Array.foldl_toList]; simp
  rw [ez]
  have a6 : pB W ((l, .loop Lp) :: R0) l = none := by
   unfold pB
   rw [aZ ⟨_, gh ..⟩]
  have a8 : jR (pB W ((l, .loop Lp) :: R0)) (pB W R0) := fun b o h1 => by
   unfold pB at h1 ⊢
   split at h1
   ·cases h1
   ·rename_i hk
    rw [aY (fun ⟨y, hy⟩ => hk ⟨y, dm _ hy⟩)]
    exact h1
  have hb := h W s x vs z R0 _ hs a6 (na w) j T (ST.JC ⟨fun b o Y => hH b o (dm _ Y), by rw [bD, cR] at J; exact J.2, a8⟩) k a1
  refine RoundIn.mono (Ib (K := fun v w' => ∃ R', qK false ((l, .loop Lp) :: R0) R' W w' ∧ v = .bool r.1 ∧ Ft l Lp I X r.2 R') m.1 m.2.2 (BL (M := Gl l) hb ?_)) ?_
  ·intro e E1 W1 g
   cases e with
   | normal =>
    obtain ⟨h1, O⟩ := g
    refine ⟨rfl, Lp, h1.trans w, hr, BL (M := Gl l) (O _) ?_⟩
    intro e E3 W3 g
    have u : ∀ b v L1, v = .bool b → KH I X z v L1 → (b = true ∧ ∃ s', z = .inl s' ∧ I s' L1) ∨ (b = false ∧ ∃ q, z = .inr q ∧ X q L1) := fun b v L1 e d => by
     subst e
     cases z with
     | inl s' => exact .inl ⟨by have := d.1; injection this, s', rfl, d.2⟩
     | inr q => exact .inr ⟨by have := d.1; injection this, q, rfl, d.2⟩
    cases e with
    | normal =>
     obtain ⟨L1, Q, d⟩ := g
     obtain ⟨g1, g2⟩ := Q.Ku (o' := .loop Lp) w j
     rcases u _ _ _ rfl d with ⟨_, s', rfl, i⟩ | ⟨Z, _⟩
     ·subst G
      refine ⟨_, g1, (l, .loop Lp) :: L1, ?_, rfl, L1, rfl, i⟩
      obtain ⟨st, pe, c1, c2, c3, c4, c5, c6⟩ := Lp
      simp only at hr hp
      subst hr hp
      exact g2
     ·cases Z
    | ret =>
     obtain ⟨L1, Q, d⟩ := g
     obtain ⟨g1, g2⟩ := Q.Ku (o' := .loop { Lp with state := .done, pending := some .ret }) w j
     rcases u _ _ _ rfl d with ⟨Z, _⟩ | ⟨_, q, rfl, i⟩
     ·cases Z
     ·subst G
      exact ⟨_, g1, _, g2, rfl, L1, _, rfl, rfl, rfl, i⟩
    | exit id => exact g.elim
    | goto t => exact g.elim
    | panic c => exact g.elim
    | outgrown => exact g.elim
   | _ => exact g.elim
  ·rintro e w' ⟨v, rfl, R', h1, G, h3⟩
   exact ⟨v, R', rfl, h1, G, h3⟩
end
section
variable {σ ρ : Type} {P : Program} {dd : Bool} {F : Nat → Prop} {w W : World} {μ : jN} {L L2 R' : List (Nat × Obj)} {l d : Nat} {Lp : Loop} {I : σ → List (Nat × Obj) → Prop} {X : ρ → List (Nat × Obj) → Prop} {Q : nr} {E : Nat → Value} {s' : σ ⊕ ρ}
theorem Ks (g : Lp.state = .ready) (d : Lp.pending = none) (a : ST dd F w W μ (R' ++ L2)) (b : Ft l Lp I X s' R') (i : ∀ s W' R0 o, s' = .inl s → I s R0 → ST dd F w W' μ (R0 ++ ((l, o) :: L2)) → Q .normal E W') (j : ∀ q W' R0 o, s' = .inr q → X q R0 → ST dd F w W' μ (R0 ++ ((l, o) :: L2)) → Q .ret E W') : Oe l Q E W := by
 have hp : ∀ (R0 : List (Nat × Obj)) (o : Obj), ((l, o) :: (R0 ++ L2)).Perm (R0 ++ ((l, o) :: L2)) := fun R0 o => List.perm_middle.symm
 cases s' with
 | inl s =>
  obtain ⟨R0, rfl, b⟩ := b
  refine ⟨Lp, (a.box l _ (.head _)).1, by rw [g]; simp, .inl ⟨d, ?_⟩⟩
  exact i s _ R0 _ rfl b ((ST.setBlock (A := []) a (.loop { Lp with state := .exhausted })).perm (hp R0 _))
 | inr q =>
  obtain ⟨R0, r, rfl, h1, h, b⟩ := b
  refine ⟨r, (a.box l _ (.head _)).1, by rw [h1]; simp, .inr (.inl ⟨h, ?_⟩)⟩
  exact j q _ R0 _ rfl b ((ST.setBlock (A := []) a (.loop { r with state := .exhausted })).perm (hp R0 _))
theorem CH {fn : Func} {R : Ending → World → Prop} {e : Exit} {L' : List (Nat × Obj)} (a : ST dd F w W μ L) (b : L.Perm ((d, .deferred (some [])) :: L')) (h : ∀ W', ST dd F w W' μ ((d, .deferred none) :: L') → tz P fn R e E W') : Io P fn R [{ target := .collected d, args := #[] }] e E W :=
 .inr ⟨d, rfl, ((a.perm b).box d _ (.head _)).1, h _ (ST.setBlock (A := []) (a.perm b) (.deferred none))⟩
theorem Mc {fn : Func} {R : Ending → World → Prop} {e : Exit} (h : tz P fn R e E W) : Io P fn R [] e E W := .inl ⟨rfl, h⟩
theorem E7 {f : FuncId} {args : List Value} {caps : Array Value} {g : Value} {K : Value → List (Nat × Obj) → World → Prop} {R0 : List (Nat × Obj)} {Z : World → Prop} (a : ST false F w W μ L) (d : L.Perm (R0 ++ L2)) (ha : #[g] ++ caps = args.toArray) (k : zz R0 W → (R0.map (·.1)).Nodup → jR μ (pB W R0) → (∀ b o, (b, o) ∈ L2 → pB W R0 b = some o) → kA false P f args W R0 K) (h : ∀ W' v μ' L1, ST false F w W' μ' (L1 ++ L2) → jR μ μ' → Lo F w μ μ' → K v L1 W' → Z W') : Calls P f (#[g] ++ caps) W fun e w => (∃ v, e = .returned v) ∧ Z w := by
 rw [ha]
 exact cT (k (a.held d) (a.Lt d) (a.Jx d) (a.Hl d)) (fun _ W' ⟨v, L1, h1, i, j⟩ => ⟨⟨v, h1⟩, h W' v _ L1 ((a.perm d).back i) ((a.perm d).AV W' L1) ((a.perm d).CS W' L1) j⟩)
end
end Go.Proofs.YtjjjihkifgdhgaaGreat
namespace Go.Proofs.YtjjjihkifgdhgaaGreat
open Go.IntKind renaming wrap → wi0
open Go.Sort Go.Proofs Go.Shelf
theorem Fv {g b : Nat} {o : Obj} : keys [(g, o)] b ↔ b = g := by
 constructor
 ·rintro ⟨o', h⟩
  simp at h
  exact h.1
 ·rintro rfl; exact ⟨o, by simp⟩
theorem Bs (w : World) (g m : Nat) (f : Array Value → Array Value) (os : Array Obj) (b : Nat) (d : b < w.heap.size) :
  (Go.Sort.grow (mapBlock (Go.Sort.ahead w m) g f) os).heap[b]? = if g = b then w.heap[b]?.map (onCells f) else w.heap[b]? := by
 have a : b < (mapBlock (Go.Sort.ahead w m) g f).heap.size := by simp only [mapBlock, Go.Sort.ahead, Array.size_modify]; exact d
 rw [heap_grow_old _ _ a]
 simp only [mapBlock, Go.Sort.ahead, dO]
theorem JP {w : World} {g m : Nat} {f : Array Value → Array Value} {os : Array Obj} {cs : Array Value} {T : TypeId} {fr : Nat × Nat} (d : w.heap[g]? = some (.cells cs T fr)) :
  qK true [(g, .cells cs T fr)] [(g, .cells (f cs) T fr)] w (Go.Sort.grow (mapBlock (Go.Sort.ahead w m) g f) os) := by
 have a : g < w.heap.size := (du.1 d).1
 refine ⟨⟨rfl, rfl, rfl, ?_, ?_, fun b i j => ?_⟩, fun b o h => ?_, by simp⟩
 ·refine sO.of ?_
  show w.drawn ≤ w.drawn + m
  omega
 ·show w.heap.size ≤ (w.heap.modify g (onCells f) ++ os).size
  simp
 ·rw [Bs _ _ _ _ _ _ i, aY fun h => j (Fv.2 h.symm)]
 ·simp only [aK, cP, eV, iJ] at h
  obtain ⟨rfl, rfl⟩ := h
  refine ⟨?_, .inr (Fv.2 rfl)⟩
  rw [Bs _ _ _ _ _ _ a, aZ rfl, d]
  rfl
theorem Lj {w W : World} (h : Ex true w W) : ∃ q os, W = Go.Sort.grow (w.drewN q) os := by
 refine ⟨W.drawn - w.drawn, W.heap.extract w.heap.size W.heap.size, ?_⟩
 have g : W.heap = w.heap ++ W.heap.extract w.heap.size W.heap.size := by
  apply Array.ext_getElem?
  intro i
  rw [gC]
  split
  ·rename_i j; exact h.lO i j
  ·rename_i j
   rw [Array.getElem?_extract]
   have l := h.size
   split
   ·rw [show w.heap.size + (i - w.heap.size) = i by omega]
   ·exact Array.getElem?_eq_none (by omega)
 obtain ⟨h1, m, n, p, r⟩ := W
 have a := h.os; have b := h.tape; have d := h.output; have k := h.drawn rfl
 simp only at a b d k g
 unfold Go.Sort.grow World.drewN
 simp only [World.mk.injEq]
 exact ⟨g, b, by omega, a, d⟩
theorem Km {α : Type} [Inhabited α] {enc : α → List Value} {k : Nat} (hk : ∀ x, (enc x).length = k) (l : List α) (j : Nat) (a : j < l.length * k) :
  (l.map enc).flatten[j]? = some ((flatK enc k l.toArray)[j]!) := by
 have g : 0 < k := by
  cases k with
  | zero => simp at a
  | succ n => omega
 have h1 : j / k < l.length := (gD g).2 a
 rw [get_flatK _ _ _ _ (by simpa using a)]
 have h : l.toArray[j / k]! = l[j / k] := by
  rw [getElem!_pos l.toArray (j / k) (by simpa using h1)]; simp
 rw [h]
 have b : j % k < (enc l[j / k]).length := by rw [hk]; exact Nat.mod_lt _ g
 have d := vV hk l (j / k) l[j / k] (cU h1) (j % k) ((enc l[j / k])[j % k]) (cU b)
 rw [Nat.div_add_mod' j k] at d
 rw [d, getElem!_pos (enc l[j / k]) (j % k) b]
theorem H5 {α : Type} [Inhabited α] {enc : α → List Value} {k : Nat} (hk : ∀ x, (enc x).length = k) {w : World} {g : Nat} {cs : Array Value} {T : TypeId} (b : w.heap[g]? = some (.cells cs T (0, 0))) (l : List α)
  (h : cs.toList.take (l.length * k) = (l.map enc).flatten) : HoldsK enc k w g 0 l.toArray := by
 intro j d
 have a : j < l.length * k := by simpa using d
 have h1 := Km hk l j a
 rw [← h, fh, aZ a] at h1
 refine ⟨?_, ?_⟩
 ·simp only [World.cell?, b, dX]
  simpa using h1
 ·simp [World.frozen?, b]
theorem JW {α : Type} [Inhabited α] {enc : α → List Value} {k : Nat} (hk : ∀ x, (enc x).length = k) {cs : Array Value} (l : List α) (b : l.length * k ≤ cs.size) :
  (putCells id 0 (flatK enc k l.toArray) cs).toList.take (l.length * k) = (l.map enc).flatten := by
 apply et
 intro j
 rw [fh]
 split
 ·rename_i a
  rw [Km hk l j a]
  simp only [putCells, dF, Array.getElem?_mapIdx, size_flatK, dx]
  rw [Array.getElem?_eq_getElem (by omega)]
  simp [a]
 ·rename_i a
  rw [eP (by rw [pJ hk]; omega)]
theorem Il (enc : Value → Value) (o : Nat) (d c : Array Value) : (putCells enc o d c).size = c.size := by simp [putCells]
section
variable {α : Type} {P : Program} {ρ : Ren}
theorem Q9 {l : List α} {cf : α × α → Option Int} (h : DV cf l) : SWO (ltOf fun (x y : {x // x ∈ l}) => (cf (x.1, y.1)).getD 0) ∧
  (∀ x y : {x // x ∈ l}, ltOf (fun (x y : {x // x ∈ l}) => (cf (x.1, y.1)).getD 0) x y = tM cf x.1 y.1) := by
 have e : ∀ x y : {x // x ∈ l}, ltOf (fun (x y : {x // x ∈ l}) => (cf (x.1, y.1)).getD 0) x y = tM cf x.1 y.1 := fun x y => by
  obtain ⟨c, g⟩ := h.is x.1 x.2 y.1 y.2
  simp [ltOf, tM, g]
 refine ⟨⟨fun x => ?_, fun x y z => ?_, fun x y z => ?_⟩, e⟩
 ·rw [e]; exact h.irrefl _ x.2
 ·rw [e, e, e]; exact h.trans _ x.2 _ y.2 _ z.2
 ·rw [e, e, e]
  intro h1 b
  cases a : tM cf x.1 z.1 with
  | false => rfl
  | true =>
   cases d : tM cf y.1 x.1 with
   | true =>
    have := h.trans _ y.2 _ x.2 _ z.2 d a
    rw [b] at this; cases this
   | false =>
    have := h.total _ x.2 _ y.2 h1 d
    rw [this, b] at a; cases a
theorem J3 (L : SlLaysF0.n6 P ρ) (k : Nat) (aE : ∀ w, (isAgg (ρ.t 24)).run P w = .ok true w) (zE : ∀ w, (Go.sizeOf (ρ.t 24)).run P w = .ok k w) {e : TypeId} (enc : α → List Value) (hk : ∀ x, (enc x).length = k) (h1 : ∀ x, ∀ u ∈ enc x, u.oneCell' = true) {v fv : Value} {l r : List α} {R : List (Nat × Obj)} {cf : α × α → Option Int} {w : World} {μ0 : jN} (hH : zz (R ++ []) w) (E : jR μ0 (pB w (R ++ []))) (Z : jM e enc k v l R) (hc : Jk P fv μ0 (fun (x : α × α) => [(.agg (enc x.1).toArray), (.agg (enc x.2).toArray)]) (fun (r : Int) => (.int .i64 r)) cf) (hm : yW cf l = some r) :
  kA true P (ρ.f 6) [v, fv] w (R ++ []) (fun u L1 _ => ∃ (S : List (Nat × Obj)), u = (.tuple #[]) ∧ L1 = (S ++ []) ∧ jM e enc k v r S) := by
 obtain ⟨ok, rfl⟩ := GH hm
 rw [bI] at hH E ⊢
 rcases ee l.length with h0 | i
 ·have hl : l = [] := aR h0
  subst hl
  have hs : sM cf ([] : List α) = [] := by simp [sM]
  rw [hs]
  obtain ⟨p, c, rfl⟩ : ∃ p c, v = .slice p 0 c := by
   rcases Z with ⟨rfl, _, _⟩ | ⟨g, cap, j, rfl, _⟩
   ·exact ⟨_, _, rfl⟩
   ·exact ⟨_, _, rfl⟩
  refine cT (AnyF.slices_SortFunc_none L p c fv w) fun x w' ⟨hx, hw⟩ => ?_
  subst hx hw
  refine ⟨_, R, rfl, ⟨⟨rfl, rfl, rfl, sO.of (aU _), aU _, fun _ _ _ => rfl⟩, fun b o h => ⟨hH b o h, .inr ⟨o, h⟩⟩, ?_⟩, R, rfl, (bI R).symm, Z⟩
  rcases Z with ⟨_, _, rfl⟩ | ⟨g, cap, j, _, rfl, _⟩ <;> simp
 ·rcases Z with ⟨_, rfl, _⟩ | ⟨g, cap, j, rfl, rfl, a8, a7, O, ae⟩
  ·simp at i
  have hg : w.heap[g]? = some (.cells j e (0, 0)) := hH g _ (by simp)
  have aa : g < w.heap.size := (du.1 hg).1
  haveI : Inhabited {x // x ∈ l} := ⟨⟨l[0], List.getElem_mem i⟩⟩
  obtain ⟨gg, caps, rfl, Q, q⟩ := hc
  obtain ⟨hO, T⟩ := Q9 ok
  have G : l.attach.toArray.size = l.length := by simp
  have ab : l.attach.map (fun x => enc x.1) = l.map enc := by
   rw [show (fun x : {x // x ∈ l} => enc x.1) = enc ∘ Subtype.val from rfl, ← eo, List.attach_map_subtype_val]
  have a1 : HoldsK (fun x : {x // x ∈ l} => enc x.1) k w g 0 l.attach.toArray := H5 (fun x => hk x.1) hg l.attach (by rw [ab, List.length_attach, ae])
  have M : CmpLays P gg caps (fun x : {x // x ∈ l} => enc x.1) k (fun x y => (cf (x.1, y.1)).getD 0) g 0 l.attach.toArray.size w := by
   intro m os dk ag x y
   obtain ⟨c, J⟩ := ok.is x.1 x.2 y.1 y.2
   have Y : jR μ0 (hp (sortWorldK (fun x : {x // x ∈ l} => enc x.1) k w g 0 m dk os)) := fun b o hb => by
    have z := E b o hb
    unfold pB at z
    split at z
    ·cases z
    ·rename_i hn
     have a6 : b < w.heap.size := (du.1 z).1
     show (Go.Sort.grow (mapBlock (Go.Sort.ahead w m) g _) os).heap[b]? = _
     rw [Bs _ _ _ _ _ _ a6, aY fun h => hn (Fv.2 h.symm)]
     exact z
   have h3 := q (sortWorldK (fun x : {x // x ∈ l} => enc x.1) k w g 0 m dk os) (x.1, y.1) c Y J
   have ea : ([Value.agg (enc x.1).toArray, Value.agg (enc y.1).toArray] ++ caps.toList).toArray = #[Value.agg (enc x.1).toArray, Value.agg (enc y.1).toArray] ++ caps := by
    apply Array.ext'; simp
   rw [← ea]
   exact cT h3 fun u W' hu => ⟨by rw [hu.1]; show _ = Ending.returned (.int .i64 ((cf (x.1, y.1)).getD 0)); rw [J]; rfl, Lj hu.2⟩
  have hT : ∀ x y : {x // x ∈ l}, ltOf (fun (x y : {x // x ∈ l}) => (cf (x.1, y.1)).getD 0) x y = false → ltOf (fun (x y : {x // x ∈ l}) => (cf (x.1, y.1)).getD 0) y x = false → x = y := fun x y a b => by
   rw [T] at a b
   exact Subtype.ext (ok.total _ x.2 _ y.2 a b)
  have d := AnyQ.slices_SortFunc_total L k aE zE (fun x : {x // x ∈ l} => enc x.1) (fun x => hk x.1) (fun x => h1 x.1) (fun x y => (cf (x.1, y.1)).getD 0) hO gg caps g 0 cap l.attach.toArray w Q M a1 aa (by rw [G]; exact ok.short) hT
  rw [G] at d
  refine cT d fun u w' ⟨hu, n, os, hw⟩ => ?_
  subst hu
  generalize hs : l.attach.toArray.toList.mergeSort (fun x y => !ltOf (fun (x y : {x // x ∈ l}) => (cf (x.1, y.1)).getD 0) y x) = s at hw
  have ad : s.map Subtype.val = sM cf l := by
   rw [← hs, iu (s := fun x y => !tM cf y x) (fun a _ b _ => by rw [T])]
   simp [sM]
  have W : s.length = l.length := by rw [← hs, List.length_mergeSort]; simp
  have U : (sM cf l).length = l.length := by simp [sM, List.length_mergeSort]
  have I := JP (w := w) (m := n) (f := putCells id 0 (flatK (fun x : {x // x ∈ l} => enc x.1) k s.toArray)) (os := os) hg
  have af : w' = Go.Sort.grow (mapBlock (Go.Sort.ahead w n) g (putCells id 0 (flatK (fun x : {x // x ∈ l} => enc x.1) k s.toArray))) os := hw
  rw [← af] at I
  refine ⟨_, _, rfl, I, _, rfl, (bI _).symm, .inr ⟨g, cap, _, by rw [U], rfl, by omega, a7, by rw [Il, O], ?_⟩⟩
  rw [U, ← W, JW (fun x => hk x.1) s (by rw [W, O]; exact cM k a8), ← ad, eo]
  rfl
end
theorem D2 (b : ByteArray) : b.toList = b.data.toList := by rw [eZ]
theorem Qm (l : List ByteArray) : (l.map Cw).flatten = l.map Value.string := by
 induction l with
 | nil => rfl
 | cons x l ih => simp only [bD, bO, ih]; rfl
theorem NI (l : List ByteArray) : (uz l).map (fun b => b.data.toList) = (l.map (fun b => b.data.toList)).mergeSort (fun x y => decide (x ≤ y)) := by
 unfold uz
 refine iu fun a _ b _ => ?_
 unfold pN
 rw [bytesLess_eq, D2, D2]
 by_cases h : a.data.toList ≤ b.data.toList
 ·have d : ¬ b.data.toList < a.data.toList := List.not_lt.2 h
  simp [h, d]
 ·have d : b.data.toList < a.data.toList := by
   cases Decidable.em (b.data.toList < a.data.toList) with
   | inl g => exact g
   | inr g => exact absurd (List.not_lt.1 g) h
  simp [h, d]
end Go.Proofs.YtjjjihkifgdhgaaGreat
namespace Go.Proofs.YtjjjihkifgdhgaaGreat
open Go.IntKind renaming wrap → wi0
open Go.WideElems Go.WideShapes Go.Sort Go.Proofs Go.Shelf
theorem JS {β : Type} {vf : β → Value} {P : Program} {kt : TypeId} (E : P.underlying kt = some .string) {l : List (ByteArray × β)} {es : Array MapEntry} {clock : Nat} (h : uh Value.string vf l es clock) (y : (l.map (·.1)).Nodup) (z : ∀ p ∈ l, p.1.size ≤ maxLen) (w : l.length ≤ maxLen) {W : World} {b : Nat} (u : W.heap[b]? = some (.map es clock)) : ∃ D : DataW Unit, W.ownsMap P kt (fun _ => some (.lit (.bool true), [])) b es.size D ∧ (strKeys D).Perm (l.map (fun p => p.1.data.toList)) ∧ Maps.size D = l.length := by
 have d := h.keys
 have n : ∀ x ∈ es.toList, ∃ s : ByteArray, x.key = .string s ∧ s.size ≤ maxLen := fun x j => by
  have h1 : x.key ∈ es.toList.map (·.key) := bF.2 ⟨x, j, rfl⟩
  rw [d] at h1
  obtain ⟨s, i, k⟩ := bF.1 h1
  obtain ⟨p, r, t⟩ := bF.1 i
  exact ⟨s, k.symm, by rw [← t]; exact z p r⟩
 have g : ∀ x ∈ es.toList, ∃ s : ByteArray, x.key = .string s ∧ Go.WideElems.rd (H := Unit) P kt (fun _ => some (.lit (.bool true), [])) x = some (.string s.data.toList, .lit (.bool true)) := fun x j => by
  obtain ⟨s, h1, i⟩ := n x j
  refine ⟨s, h1, ?_⟩
  simp [Go.WideElems.rd, keyOf, E, mapKey, h1, i]
 refine ⟨_, ⟨es, clock, u, ⟨by rw [h.length]; exact w, ⟨h.lt, ?_, ?_⟩, fun x j => ?_⟩, aU _, rfl⟩, ?_, ?_⟩
 ·have := h.born
  rw [List.Nodup, fG]
  exact this.imp (fun {a b} h => by omega)
 ·rw [d]
  rw [List.Nodup, fG]
  exact y.imp (fun {a b} m e => m (by injection e))
 ·obtain ⟨s, _, i⟩ := g x j
  exact ⟨_, i⟩
 ·have h1 := (sorted_perm (es.toList.map (Go.WideElems.rg (H := Unit) P kt (fun _ => some (.lit (.bool true), []))))).map (fun p => strOf p.1)
  refine List.Perm.trans h1 ?_
  have e : (es.toList.map (Go.WideElems.rg (H := Unit) P kt (fun _ => some (.lit (.bool true), [])))).map (fun p => strOf p.1) = l.map (fun p => p.1.data.toList) := by
   have q : (es.toList.map (Go.WideElems.rg (H := Unit) P kt (fun _ => some (.lit (.bool true), [])))).map (fun p => strOf p.1) = (es.toList.map (·.key)).map (fun v => match v with | .string s => s.data.toList | _ => []) := by
    rw [eo, eo]
    refine List.map_congr_left fun x j => ?_
    obtain ⟨s, i, k⟩ := g x j
    simp [Go.WideElems.rg, k, i, strOf]
   rw [q, d, eo, eo]
   rfl
  rw [e]
 ·have h1 := (sorted_perm (es.toList.map (Go.WideElems.rg (H := Unit) P kt (fun _ => some (.lit (.bool true), []))))).length_eq
  show (List.foldr DataW.insert [] _).length = _
  rw [h1, cW, ← h.length]
  simp
theorem Ia {l : List ByteArray} {g : List (List UInt8)} (h : g.Perm (l.map fun b => b.data.toList)) : g.mergeSort (fun x y => decide (x ≤ y)) = (uz l).map (fun b => b.data.toList) := by
 rw [NI]
 have le : ∀ a b c : List UInt8, decide (a ≤ b) = true → decide (b ≤ c) = true → decide (a ≤ c) = true := fun a b c h1 d => by
  simp only [bL] at *
  exact List.le_trans h1 d
 have tot : ∀ a b : List UInt8, (decide (a ≤ b) || decide (b ≤ a)) = true := fun a b => by
  simp only [fz, bL]
  exact List.le_total a b
 refine List.Perm.eq_of_pairwise (le := fun a b => decide (a ≤ b) = true) (fun a b _ _ h1 d => List.le_antisymm (by simpa using h1) (by simpa using d)) (gm le tot _) (gm le tot _) ?_
 exact (gU _ _).trans (h.trans (gU _ _).symm)
section
variable {P : Program} {ρk ρt ρm : Ren}
theorem JO (LK : SlLaysZ.n7 P ρk) (LT : SlLaysZ.n6 P ρt) (LM : SlLaysM.n6 P ρm) (h9 : ρt.f 9 = ρm.f 6) (hK : P.underlying (ρk.t 26) = some .string) (eg : ∀ args w, (callFunc (ρk.f 10) args).run P w = .ok (.enter (ρk.f 10) args) w) (es : ∀ args w, (callFunc (ρt.f 9) args).run P w = .ok (.enter (ρt.f 9) args) w) {β : Type} {vf : β → Value} {l : List (ByteArray × β)} {b : Nat} {mv : Value} {t : TypeId} {W : World} {r : List ByteArray} (z : W.heap[b]? = some (.cells #[mv] t (0, 0))) (hm : uj Value.string vf (hp W) mv l) (hk : FM l = some r) :
  mH false P (ρt.f 6) [.func (.func (ρk.f 10)) #[] #[.pointer (some ⟨b, 0, none⟩)]] W (ρt.t 26) Cw 1 r := by
 unfold FM at hk
 split at hk
 case isFalse => cases hk
 rename_i hc
 obtain ⟨Y, Z, a1⟩ := hc
 cases hk
 have j : b < W.heap.size := (du.1 z).1
 have d : W.cell? ⟨b, 0, none⟩ = some mv := by simp [World.cell?, z]
 have s : AnyZ.SortsIn P ρt Fence.wide 4 :=
  ⟨fun Q off cap i W hH hblk u => gr.2 (by rw [h9]; exact AnyM.slices_Sort_string LM Q off cap i W hH hblk u), fun p cap W => gr.2 (by rw [h9]; exact AnyM.slices_Sort_string_none LM p cap W)⟩
 have M : SeqGives Fence.wide 2 P (ρk.f 10) #[.pointer (some ⟨b, 0, none⟩)] encStr (fun i => i.Perm ((l.map (·.1)).map fun b => b.data.toList)) l.length W := by
  rcases hm with ⟨rfl, rfl⟩ | ⟨m, es, clock, rfl, a8, G⟩
  ·have := AnyZ.keys_gives_nil (ρ := ρk) { LK with } Fence.wide 2 trivial rfl b W j d
   intro l' J W' T R U O
   refine CallsIn.mono (this l' J W' T R U O) ?_
   rintro e w' ⟨hv, i, rfl, hj⟩
   exact ⟨hv, [], bR _, hj⟩
  ·obtain ⟨D, I, q, u⟩ := JS hK G Y Z (by unfold maxLen; omega) a8
   have := AnyZ.keys_gives (ρ := ρk) { LK with } Fence.wide 2 trivial rfl (by omega) b m es.size D W j d I
   intro l' J W' T R U O
   refine CallsIn.mono (this l' J W' T R (by rw [u]; exact U) O) ?_
   rintro e w' ⟨hv, i, hp, hj⟩
   refine ⟨hv, i, ?_, hj⟩
   rw [eo]
   exact hp.trans q
 have cS := AnyZ.sorted_in LT Fence.wide 5 trivial trivial trivial trivial rfl (by omega) s es (ρk.f 10) #[.pointer (some ⟨b, 0, none⟩)] trivial eg _ l.length (by unfold maxLen; omega) a1 W M
 refine cT (gr.1 cS) ?_
 rintro e w' ⟨v, i, rfl, hS, L, ab, a⟩
 have hs := Ia hS
 have hlen : i.length = (uz (l.map (·.1))).length := by
  have := bN List.length hs
  simpa using this
 have n : (i.mergeSort (fun x y => decide (x ≤ y))).map encStr = ((uz (l.map (·.1))).map Cw).flatten := by
  rw [hs, Qm, eo]
  refine List.map_congr_left (fun x _ => ?_)
  simp only [Function.comp, encStr]
 rcases L.2 with ⟨rfl, O⟩ | ⟨g, cap, E, rfl, k, hg, ad, a6, a7, aa⟩
 ·have : uz (l.map (·.1)) = [] := aR (by omega)
  rw [this]
  exact ⟨_, [], rfl, qK.Ip ⟨a.os, a.tape, a.output, fun h => (by cases h), a.size, fun b z => a.block b z⟩ (fun _ _ h => by cases h) (by simp), jM.nil _ _ _⟩
 ·refine ⟨_, [(g, .cells E (ρt.t 26) (0, 0))], rfl, qK.Ip ⟨a.os, a.tape, a.output, fun h => (by cases h), a.size, fun b z => a.block b z⟩ (fun b o h => by simp at h; obtain ⟨rfl, rfl⟩ := h; exact ⟨hg, k⟩) (by simp), .inr ⟨g, cap, E, by rw [hlen], rfl, by omega, a6, a7, ?_⟩⟩
  rw [← hlen, aa, n]
end
end Go.Proofs.YtjjjihkifgdhgaaGreat
namespace Go.Proofs.YtjjjihkifgdhgaaGreat
open Go.IntKind renaming wrap → wi0
def fO := @Tryz.underlying9
def gb := @Tryz.zeroValue9
def gI := @Tryz.underlying0
def gQ := @Tryz.zeroValue0
def gY := @Tryz.sizeOf9
def iv := @Tryz.underlying112
def iC := @Tryz.isAgg9
def iD := @Tryz.zeroValue112
def iQ := @Tryz.underlying4
def iU := @Tryz.sizeOf0
def jc := @Tryz.zeroValue4
def jf := @Tryz.isAgg0
def O4 : Go.Shelf.Ren := ⟨fun | 6 => 48 | 15 => 78 | 14 => 77 | 28 => 110 | 29 => 111 | 20 => 102 | 21 => 103 | 22 => 104 | 23 => 105 | 24 => 106 | 25 => 107 | 26 => 108 | 27 => 109 | 46 => 137 | 47 => 138 | 48 => 139 | 49 => 140 | 50 => 141 | 57 => 155 | n => n, fun | 22 => 42 | 24 => 49 | 25 => 76 | 3 => 3 | 39 => 127 | 0 => 0 | 53 => 163 | 55 => 165 | 4 => 4 | 46 => 157 | 45 => 156 | 50 => 50 | 5 => 5 | 9 => 9 | 66 => 188 | 70 => 192 | 76 => 203 | 77 => 137 | n => n, fun | n => n⟩
theorem Sy : Go.Proofs.SlLaysF0.n6 Tryz.prog O4 := {
 mixed := by kernel_rfl,
 f6 := ⟨Tryz.f48.name, by decide, Tryz.func48.trans (bN some (by kernel_rfl))⟩,
 f14 := ⟨Tryz.f77.name, by decide, Tryz.func77.trans (bN some (by kernel_rfl))⟩,
 f15 := Tryz.func78.trans (bN some (by kernel_rfl)),
 f20 := ⟨Tryz.f102.name, by decide, Tryz.func102.trans (bN some (by kernel_rfl))⟩,
 f21 := ⟨Tryz.f103.name, by decide, Tryz.func103.trans (bN some (by kernel_rfl))⟩,
 f22 := ⟨Tryz.f104.name, by decide, Tryz.func104.trans (bN some (by kernel_rfl))⟩,
 f23 := ⟨Tryz.f105.name, by decide, Tryz.func105.trans (bN some (by kernel_rfl))⟩,
 f24 := ⟨Tryz.f106.name, by decide, Tryz.func106.trans (bN some (by kernel_rfl))⟩,
 f25 := ⟨Tryz.f107.name, by decide, Tryz.func107.trans (bN some (by kernel_rfl))⟩,
 f26 := ⟨Tryz.f108.name, by decide, Tryz.func108.trans (bN some (by kernel_rfl))⟩,
 f27 := ⟨Tryz.f109.name, by decide, Tryz.func109.trans (bN some (by kernel_rfl))⟩,
 f28 := Tryz.func110.trans (bN some (by kernel_rfl)),
 f29 := Tryz.func111.trans (bN some (by kernel_rfl)),
 f46 := ⟨Tryz.f137.name, by decide, Tryz.func137.trans (bN some (by kernel_rfl))⟩,
 f47 := Tryz.func138.trans (bN some (by kernel_rfl)),
 f48 := Tryz.func139.trans (bN some (by kernel_rfl)),
 f49 := ⟨Tryz.f140.name, by decide, Tryz.func140.trans (bN some (by kernel_rfl))⟩,
 f50 := ⟨Tryz.f141.name, by decide, Tryz.func141.trans (bN some (by kernel_rfl))⟩,
 f57 := ⟨Tryz.f155.name, by decide, Tryz.func155.trans (bN some (by kernel_rfl))⟩,
 t0 := gI,
 a0 := jf,
 z0 := iU,
 v0 := gQ,
 t3 := Tryz.underlying3,
 a3 := Tryz.isAgg3,
 z3 := Tryz.sizeOf3,
 v3 := Tryz.zeroValue3,
 t4 := iQ,
 a4 := Tryz.isAgg4,
 z4 := Tryz.sizeOf4,
 v4 := jc,
 t5 := Tryz.underlying5,
 a5 := Tryz.isAgg5,
 z5 := Tryz.sizeOf5,
 v5 := Tryz.zeroValue5,
 t9 := fO,
 a9 := iC,
 z9 := gY,
 v9 := gb,
 t22 := Tryz.underlying42,
 a22 := Tryz.isAgg42,
 z22 := Tryz.sizeOf42,
 v22 := Tryz.zeroValue42,
 t25 := Tryz.underlying76,
 a25 := Tryz.isAgg76,
 z25 := Tryz.sizeOf76,
 v25 := Tryz.zeroValue76,
 t39 := Tryz.underlying127,
 a39 := Tryz.isAgg127,
 z39 := Tryz.sizeOf127,
 v39 := Tryz.zeroValue127,
 t45 := Tryz.underlying156,
 a45 := Tryz.isAgg156,
 z45 := Tryz.sizeOf156,
 v45 := Tryz.zeroValue156,
 t46 := Tryz.underlying157,
 a46 := Tryz.isAgg157,
 z46 := Tryz.sizeOf157,
 v46 := Tryz.zeroValue157,
 t50 := Tryz.underlying50,
 a50 := Tryz.isAgg50,
 z50 := Tryz.sizeOf50,
 v50 := Tryz.zeroValue50,
 t53 := Tryz.underlying163,
 a53 := Tryz.isAgg163,
 z53 := Tryz.sizeOf163,
 v53 := Tryz.zeroValue163,
 t55 := Tryz.underlying165,
 a55 := Tryz.isAgg165,
 z55 := Tryz.sizeOf165,
 v55 := Tryz.zeroValue165,
 t66 := Tryz.underlying188,
 a66 := Tryz.isAgg188,
 z66 := Tryz.sizeOf188,
 v66 := Tryz.zeroValue188,
 t70 := Tryz.underlying192,
 a70 := Tryz.isAgg192,
 z70 := Tryz.sizeOf192,
 v70 := Tryz.zeroValue192,
 t76 := Tryz.underlying203,
 a76 := Tryz.isAgg203,
 z76 := Tryz.sizeOf203,
 v76 := Tryz.zeroValue203,
 t77 := Tryz.underlying137,
 a77 := Tryz.isAgg137,
 z77 := Tryz.sizeOf137,
 v77 := Tryz.zeroValue137}
def Ri : Go.Shelf.Ren := ⟨fun | 6 => 169 | 8 => 78 | 9 => 176 | 19 => 110 | 20 => 111 | 21 => 179 | 22 => 180 | 23 => 181 | 24 => 182 | 25 => 183 | 26 => 184 | 27 => 185 | 28 => 186 | 29 => 187 | 36 => 191 | 31 => 138 | 32 => 139 | 37 => 192 | 38 => 193 | 39 => 194 | 41 => 197 | n => n, fun | 27 => 112 | 29 => 9 | 3 => 3 | 32 => 127 | 26 => 112 | 0 => 0 | 44 => 163 | 46 => 165 | 4 => 4 | 36 => 157 | 35 => 156 | 41 => 50 | 5 => 5 | 9 => 9 | 53 => 188 | 57 => 192 | 63 => 203 | 64 => 137 | n => n, fun | n => n⟩
theorem RD : Go.Proofs.SlLaysM.n6 Tryz.prog Ri := {
 mixed := by kernel_rfl,
 f6 := ⟨Tryz.f169.name, by decide, Tryz.func169.trans (bN some (by kernel_rfl))⟩,
 f8 := Tryz.func78.trans (bN some (by kernel_rfl)),
 f9 := ⟨Tryz.f176.name, by decide, Tryz.func176.trans (bN some (by kernel_rfl))⟩,
 f19 := Tryz.func110.trans (bN some (by kernel_rfl)),
 f20 := Tryz.func111.trans (bN some (by kernel_rfl)),
 f21 := ⟨Tryz.f179.name, by decide, Tryz.func179.trans (bN some (by kernel_rfl))⟩,
 f22 := ⟨Tryz.f180.name, by decide, Tryz.func180.trans (bN some (by kernel_rfl))⟩,
 f23 := ⟨Tryz.f181.name, by decide, Tryz.func181.trans (bN some (by kernel_rfl))⟩,
 f24 := ⟨Tryz.f182.name, by decide, Tryz.func182.trans (bN some (by kernel_rfl))⟩,
 f25 := ⟨Tryz.f183.name, by decide, Tryz.func183.trans (bN some (by kernel_rfl))⟩,
 f26 := ⟨Tryz.f184.name, by decide, Tryz.func184.trans (bN some (by kernel_rfl))⟩,
 f27 := ⟨Tryz.f185.name, by decide, Tryz.func185.trans (bN some (by kernel_rfl))⟩,
 f28 := ⟨Tryz.f186.name, by decide, Tryz.func186.trans (bN some (by kernel_rfl))⟩,
 f29 := ⟨Tryz.f187.name, by decide, Tryz.func187.trans (bN some (by kernel_rfl))⟩,
 f31 := Tryz.func138.trans (bN some (by kernel_rfl)),
 f32 := Tryz.func139.trans (bN some (by kernel_rfl)),
 f36 := ⟨Tryz.f191.name, by decide, Tryz.func191.trans (bN some (by kernel_rfl))⟩,
 f37 := ⟨Tryz.f192.name, by decide, Tryz.func192.trans (bN some (by kernel_rfl))⟩,
 f38 := ⟨Tryz.f193.name, by decide, Tryz.func193.trans (bN some (by kernel_rfl))⟩,
 f39 := ⟨Tryz.f194.name, by decide, Tryz.func194.trans (bN some (by kernel_rfl))⟩,
 f41 := ⟨Tryz.f197.name, by decide, Tryz.func197.trans (bN some (by kernel_rfl))⟩,
 t0 := gI,
 a0 := jf,
 z0 := iU,
 v0 := gQ,
 t3 := Tryz.underlying3,
 a3 := Tryz.isAgg3,
 z3 := Tryz.sizeOf3,
 v3 := Tryz.zeroValue3,
 t4 := iQ,
 a4 := Tryz.isAgg4,
 z4 := Tryz.sizeOf4,
 v4 := jc,
 t5 := Tryz.underlying5,
 a5 := Tryz.isAgg5,
 z5 := Tryz.sizeOf5,
 v5 := Tryz.zeroValue5,
 t9 := fO,
 a9 := iC,
 z9 := gY,
 v9 := gb,
 t26 := iv,
 a26 := Tryz.isAgg112,
 z26 := Tryz.sizeOf112,
 v26 := iD,
 t27 := iv,
 a27 := Tryz.isAgg112,
 z27 := Tryz.sizeOf112,
 v27 := iD,
 t29 := fO,
 a29 := iC,
 z29 := gY,
 v29 := gb,
 t32 := Tryz.underlying127,
 a32 := Tryz.isAgg127,
 z32 := Tryz.sizeOf127,
 v32 := Tryz.zeroValue127,
 t35 := Tryz.underlying156,
 a35 := Tryz.isAgg156,
 z35 := Tryz.sizeOf156,
 v35 := Tryz.zeroValue156,
 t36 := Tryz.underlying157,
 a36 := Tryz.isAgg157,
 z36 := Tryz.sizeOf157,
 v36 := Tryz.zeroValue157,
 t41 := Tryz.underlying50,
 a41 := Tryz.isAgg50,
 z41 := Tryz.sizeOf50,
 v41 := Tryz.zeroValue50,
 t44 := Tryz.underlying163,
 a44 := Tryz.isAgg163,
 z44 := Tryz.sizeOf163,
 v44 := Tryz.zeroValue163,
 t46 := Tryz.underlying165,
 a46 := Tryz.isAgg165,
 z46 := Tryz.sizeOf165,
 v46 := Tryz.zeroValue165,
 t53 := Tryz.underlying188,
 a53 := Tryz.isAgg188,
 z53 := Tryz.sizeOf188,
 v53 := Tryz.zeroValue188,
 t57 := Tryz.underlying192,
 a57 := Tryz.isAgg192,
 z57 := Tryz.sizeOf192,
 v57 := Tryz.zeroValue192,
 t63 := Tryz.underlying203,
 a63 := Tryz.isAgg203,
 z63 := Tryz.sizeOf203,
 v63 := Tryz.zeroValue203,
 t64 := Tryz.underlying137,
 a64 := Tryz.isAgg137,
 z64 := Tryz.sizeOf137,
 v64 := Tryz.zeroValue137}
def Pg : Go.Shelf.Ren := ⟨fun | 7 => 157 | 10 => 170 | n => n, fun | 23 => 136 | 26 => 9 | 3 => 4 | 28 => 207 | 0 => 0 | 27 => 206 | 33 => 103 | 4 => 4 | n => n, fun | n => n⟩
theorem Qi : Go.Proofs.SlLaysZ.n7 Tryz.prog Pg := {
 mixed := by kernel_rfl,
 f7 := ⟨Tryz.f157.name, by decide, Tryz.func157.trans (bN some (by kernel_rfl))⟩,
 f10 := ⟨Tryz.f170.name, by decide, Tryz.func170.trans (bN some (by kernel_rfl))⟩,
 t0 := gI,
 a0 := jf,
 z0 := iU,
 v0 := gQ,
 t4 := iQ,
 a4 := Tryz.isAgg4,
 z4 := Tryz.sizeOf4,
 v4 := jc,
 t23 := Tryz.underlying136,
 a23 := Tryz.isAgg136,
 z23 := Tryz.sizeOf136,
 v23 := Tryz.zeroValue136,
 t26 := fO,
 a26 := iC,
 z26 := gY,
 v26 := gb,
 t27 := Tryz.underlying206,
 a27 := Tryz.isAgg206,
 z27 := Tryz.sizeOf206,
 v27 := Tryz.zeroValue206,
 t28 := Tryz.underlying207,
 a28 := Tryz.isAgg207,
 z28 := Tryz.sizeOf207,
 v28 := Tryz.zeroValue207,
 t33 := Tryz.underlying103,
 a33 := Tryz.isAgg103,
 z33 := Tryz.sizeOf103,
 v33 := Tryz.zeroValue103}
def Pu : Go.Shelf.Ren := ⟨fun | 6 => 156 | 8 => 168 | 9 => 169 | 11 => 175 | 13 => 78 | 12 => 176 | 23 => 110 | 24 => 111 | 14 => 179 | 15 => 180 | 16 => 181 | 17 => 182 | 18 => 183 | 19 => 184 | 20 => 185 | 21 => 186 | 22 => 187 | 25 => 191 | 26 => 138 | 27 => 139 | 28 => 192 | 29 => 193 | 30 => 194 | 31 => 197 | n => n, fun | 26 => 9 | 28 => 207 | 24 => 112 | 0 => 0 | 3 => 3 | 37 => 127 | 48 => 163 | 50 => 165 | 4 => 4 | 40 => 157 | 39 => 156 | 45 => 50 | 5 => 5 | 9 => 9 | 51 => 188 | 55 => 192 | 57 => 203 | 58 => 137 | 33 => 103 | n => n, fun | n => n⟩
theorem P3 : Go.Proofs.SlLaysZ.n6 Tryz.prog Pu := {
 mixed := by kernel_rfl,
 f6 := ⟨Tryz.f156.name, by decide, Tryz.func156.trans (bN some (by kernel_rfl))⟩,
 f8 := ⟨Tryz.f168.name, by decide, Tryz.func168.trans (bN some (by kernel_rfl))⟩,
 f11 := ⟨Tryz.f175.name, by decide, Tryz.func175.trans (bN some (by kernel_rfl))⟩,
 t0 := gI,
 a0 := jf,
 z0 := iU,
 v0 := gQ,
 t24 := iv,
 a24 := Tryz.isAgg112,
 z24 := Tryz.sizeOf112,
 v24 := iD,
 t26 := fO,
 a26 := iC,
 z26 := gY,
 v26 := gb,
 t28 := Tryz.underlying207,
 a28 := Tryz.isAgg207,
 z28 := Tryz.sizeOf207,
 v28 := Tryz.zeroValue207,
 i26 := by kernel_rfl}
end Go.Proofs.YtjjjihkifgdhgaaGreat
namespace Go.Proofs.YtjjjihkifgdhgaaGreat
open Go.IntKind renaming wrap → wi0
open Go.RowKit
set_option maxRecDepth 10000
noncomputable section
structure jl where
 jq : ByteArray
 jv : ByteArray
def ju (x : jl) : List Value := [.string x.jq, .string x.jv]
def jJ (x y : jl) : Bool := (kD x.jq y.jq) && ((kD x.jv y.jv) && true)
theorem jK {x y : jl} : jJ x y = true ↔ x = y := by
 cases x; cases y; simp [jJ, lI]
theorem BY (x : jl) : (ju x).length = 2 := rfl
theorem xE (x : jl) : ∀ u ∈ ju x, u.oneCell' = true := by
 intro u hu
 simp only [ju, aK, cP, eV] at hu
 rcases hu with rfl | rfl <;> rfl
structure jm where
 Kind : Int
 Head : jl
 km : ByteArray
 B : jl
 C : jl
 kC : ByteArray
def jr (x : jm) : List Value := [.int .i64 x.Kind, .string x.Head.jq, .string x.Head.jv, .string x.km, .string x.B.jq, .string x.B.jv, .string x.C.jq, .string x.C.jv, .string x.kC]
def kU (x y : jm) : Bool := (x.Kind == y.Kind) && ((jJ x.Head y.Head) && ((kD x.km y.km) && ((jJ x.B y.B) && ((jJ x.C y.C) && ((kD x.kC y.kC) && true)))))
theorem ns {x y : jm} : kU x y = true ↔ x = y := by
 cases x; cases y; simp [kU, lI, jK]
theorem kj (x : jm) : (jr x).length = 9 := rfl
theorem nw (x : jm) : ∀ u ∈ jr x, u.oneCell' = true := by
 intro u hu
 simp only [jr, aK, cP, eV] at hu
 rcases hu with rfl | rfl | rfl | rfl | rfl | rfl | rfl | rfl | rfl <;> rfl
structure jE where
 jl : jl
 km : ByteArray
def lh (x : jE) : List Value := [.string x.jl.jq, .string x.jl.jv, .string x.km]
def Ae (x y : jE) : Bool := (jJ x.jl y.jl) && ((kD x.km y.km) && true)
theorem wH {x y : jE} : Ae x y = true ↔ x = y := by
 cases x; cases y; simp [Ae, lI, jK]
theorem wo (x : jE) : (lh x).length = 3 := rfl
theorem Ke (x : jE) : ∀ u ∈ lh x, u.oneCell' = true := by
 intro u hu
 simp only [lh, aK, cP, eV] at hu
 rcases hu with rfl | rfl | rfl <;> rfl
structure ky where
 og : Int
 nB : Int
def lu (x : ky) : List Value := [.int .i64 x.og, .int .i64 x.nB]
def FT (x y : ky) : Bool := (x.og == y.og) && ((x.nB == y.nB) && true)
theorem CK (x : ky) : (lu x).length = 2 := rfl
theorem F8 (x : ky) : ∀ u ∈ lu x, u.oneCell' = true := by
 intro u hu
 simp only [lu, aK, cP, eV] at hu
 rcases hu with rfl | rfl <;> rfl
structure kk where
 e : Int
def kT (x : kk) : List Value := [.int .i64 x.e]
structure mA where
 RB : Bool
structure Key where
 km : ByteArray
 Key : List Int
structure Signed where
 jm : jm
 Tag : List Int
structure Formula where
 Op : Int
 K : Int
 jl : jl
 Kids : List Formula
structure kd where
 Signed : Signed
 jw : Formula
structure nf where
 jl : jl
 jw : Formula
 mo : List jm
structure jX where
 Name : ByteArray
 jF : List kd
 jS : List nf
structure mM where
 jq : jX
 Client : jX
 Formula : Formula
 vo : Int
 nG : ky
 pC : Int
 th : Int
 qN : Int
 Keys : List Key
def od (a0 : ByteArray) (a : Int) : Option Int :=
 some (wz a0 a)
def qS (a0 : ByteArray) (a : Int) : Option Int :=
 ((od a0 a).bind fun b => some b)
def uy  : List Int → Option Bool
 | [] => some true
 | d :: a => ((qS (⟨#[97, 98, 99, 100, 101, 102, 103, 104, 105, 106, 107, 108, 109, 110, 111, 112, 113, 114, 115, 116, 117, 118, 119, 120, 121, 122, 48, 49, 50, 51, 52, 53, 54, 55, 56, 57, 45]⟩ : ByteArray) d).bind fun b => (if (decide (b < 0)) then some false else (uy a)))
def Bn (a0 : ByteArray) : Option Bool :=
 ((Cd a0).bind fun a => uy a)
def rF (a0 : ByteArray) : Option Bool :=
 ((if (decide ((a0.size : Int) ≥ 1)) then some (decide ((a0.size : Int) ≤ 16)) else some false).bind fun x2 => ((if x2 then ((zI a0 0).bind fun a => ((qS (⟨#[97, 98, 99, 100, 101, 102, 103, 104, 105, 106, 107, 108, 109, 110, 111, 112, 113, 114, 115, 116, 117, 118, 119, 120, 121, 122]⟩ : ByteArray) (a.toNat : Int)).bind fun d => some (decide (d ≥ 0)))) else some false).bind fun g => ((if g then ((Bn a0).bind fun b => some b) else some false).bind fun h => some h)))
def tJ (a0 : List Int) : Option (List Int) :=
 ((lP 1 ([]) a0).bind fun a => some a)
def pK (a0 : jl) : Option Bool :=
 ((rF a0.jq).bind fun d => ((if d then ((rF a0.jv).bind fun a => some a) else some false).bind fun b => some b))
def mZ (a0 a : ByteArray) : Option Int :=
 some (oP a0 a)
def pk (a0 a : ByteArray) : Option Int :=
 ((mZ a0 a).bind fun b => some b)
def rH  : List Int → Option Int
 | [] => some 0
 | a :: b => (if (a != 0) then some a else (rH b))
def uq (a0 : List Int) : Option Int :=
 rH a0
def rj (a0 g : jl) : Option Int :=
 ((pk a0.jq g.jq).bind fun a => ((pk a0.jv g.jv).bind fun b => ((uq ([a, b])).bind fun d => some d)))
def sV (a0 : jm) : Option Bool :=
 ((pK a0.Head).bind fun y => (((if (a0.Kind == 1) then ((if y then ((rF a0.km).bind fun b => some b) else some false).bind fun p => some (Sum.inr (p, (⟨a0.Kind, a0.Head, a0.km, (⟨zS, zS⟩ : jl), (⟨zS, zS⟩ : jl), zS⟩ : jm)))) else (if (a0.Kind == 2) then ((if y then ((pK a0.B).bind fun d => some d) else some false).bind fun q => some (Sum.inr (q, (⟨a0.Kind, a0.Head, zS, a0.B, (⟨zS, zS⟩ : jl), zS⟩ : jm)))) else (if (a0.Kind == 3) then ((if y then ((pK a0.B).bind fun h => some h) else some false).bind fun r => ((if r then some (kD a0.B.jq a0.Head.jq) else some false).bind fun t => ((if t then ((rF a0.kC).bind fun g => some g) else some false).bind fun u => some (Sum.inr (u, (⟨a0.Kind, a0.Head, zS, a0.B, (⟨zS, zS⟩ : jl), a0.kC⟩ : jm)))))) else (if (a0.Kind == 4) then ((if y then ((pK a0.B).bind fun k => some k) else some false).bind fun v => ((if v then ((pK a0.C).bind fun j => some j) else some false).bind fun w => ((if w then ((rj a0.B a0.C).bind fun i => some (decide (i < 0))) else some false).bind fun x => some (Sum.inr (x, (⟨a0.Kind, a0.Head, zS, a0.B, a0.C, zS⟩ : jm)))))) else some (Sum.inl false))))) : Option (Bool ⊕ (Bool × jm))).bind fun s => match s with | .inl a => some a | .inr (l, m) => ((if l then some (kU m a0) else some false).bind fun n => some n)))
def pH  : Nat → Int → (List Int) → Option (Bool × (List Int))
 | 0, _, _ => none
 | h + 1, a, d => (if (decide (a ≥ 128)) then ((lP 1 d ([(IntKind.u8.wrap (BitVec.ofInt (IntKind.bits .u8) (IntKind.u8.wrap a) ||| BitVec.ofInt (IntKind.bits .u8) 128).toNat)])).bind fun g => (pH h (Int.fdiv a (2 ^ min (Int.toNat 7) (IntKind.bits .i64))) g)) else ((lP 1 d ([(IntKind.u8.wrap a)])).bind fun b => some (true, b)))
def nF (a : List Int) (b : Int) : Option (Bool × (List Int)) :=
 (if (decide (b < 0)) then some (false, a) else pH jP b a)
def wF (a b : List Int) : Option (Bool × (List Int)) :=
 (if (decide ((b.length : Int) > 2048)) then some (false, a) else ((nF a (b.length : Int)).bind fun g => ((lP 1 g.2 b).bind fun d => some (true, d))))
def sT (a : List Int) (i : ByteArray) : Option (Bool × (List Int)) :=
 ((rF i).bind fun j => (((if j then ((Cd i).bind fun g => ((wF a g).bind fun b => some (b.1, b.2))) else some (false, a)) : Option (Bool × (List Int))).bind fun (h, d) => some (h, d)))
def pI (a : List Int) (h : jl) : Option (Bool × (List Int)) :=
 ((pK h).bind fun l => (((if l then ((sT a h.jq).bind fun g => some (g.1, g.2)) else some (false, a)) : Option (Bool × (List Int))).bind fun (j, b) => (((if j then ((sT b h.jv).bind fun d => some (d.1, d.2)) else some (false, b)) : Option (Bool × (List Int))).bind fun (k, i) => some (k, i))))
def sS (a : List Int) : Option (List Int) :=
 ((tJ a).bind fun b => some b)
def vR (a0 : jm) : Option (List Int) :=
 ((sV a0).bind fun m => (if (!m) then some [] else ((nF ([]) a0.Kind).bind fun n => ((pI n.2 a0.Head).bind fun a => (((if (a0.Kind == 1) then ((sT a.2 a0.km).bind fun g => some g.2) else (if (a0.Kind == 2) then ((pI a.2 a0.B).bind fun h => some h.2) else (if (a0.Kind == 3) then ((pI a.2 a0.B).bind fun i => ((sT i.2 a0.kC).bind fun j => some j.2)) else (if (a0.Kind == 4) then ((pI a.2 a0.B).bind fun k => ((pI k.2 a0.C).bind fun l => some l.2)) else some a.2)))) : Option (List Int)).bind fun b => ((sS b).bind fun d => some d))))))
def qQ (a0 : List jm) : Option (List jm) :=
 ((lP 136 ([]) a0).bind fun a => some a)
def om (f1 : jm → Option Bool) : List jm → Nat → Option Int
 | [], _ => some (-1)
 | d :: a, i35 => ((f1 d).bind fun b => (if b then some (i35 : Int) else (om f1 a (i35 + 1))))
def tw (a0 : List jm) (f1 : jm → Option Bool) : Option Int :=
 om f1 a0 0
def nc (f1 : jm → Option Bool) : Nat → (List jm) → Int → Int → Option (List jm)
 | 0, _, _, _ => none
 | n321 + 1, b, a, d => (if (decide (d < (b.length : Int))) then ((((kV b d).bind fun g => ((f1 g).bind fun i => (if (!i) then ((kV b a).bind fun k => some ((b.set (Int.toNat a) g), (wi0 .i64 (a + 1)))) else some (b, a)))) : Option ((List jm) × Int)).bind fun (h, j) => (nc f1 n321 h j (wi0 .i64 (d + 1)))) else ((qR (decide (0 ≤ a) && decide (a ≤ (b.length : Int)))).bind fun _ => ((qR (decide (0 ≤ a) && decide (a ≤ ((oq b (Int.toNat a) (⟨0, (⟨zS, zS⟩ : jl), zS, (⟨zS, zS⟩ : jl), (⟨zS, zS⟩ : jl), zS⟩ : jm)).length : Int)))).bind fun _ => some ((oq b (Int.toNat a) (⟨0, (⟨zS, zS⟩ : jl), zS, (⟨zS, zS⟩ : jl), (⟨zS, zS⟩ : jl), zS⟩ : jm)).take (Int.toNat a)))))
def oR (a0 : List jm) (f1 : jm → Option Bool) : Option (List jm) :=
 ((tw a0 f1).bind fun a => (if (a == (-1)) then some a0 else nc f1 jP a0 a (wi0 .i64 (a + 1))))
def wV (a0 : jm) : Option Bool :=
 ((sV a0).bind fun a => some (!a))
def vH (a0 a : List Int) : Option Int :=
 some (xu a0 a)
def sL (a0 g : jm) : Option Int :=
 ((vR a0).bind fun a => ((vR g).bind fun b => ((vH a b).bind fun d => some d)))
def nK (b : Int) : Nat → (List jm) → Int → Int → Option ((List jm) × Int)
 | 0, _, _, _ => none
 | i + 1, a, d, g => (if (decide (g < ((a.length - (Int.toNat b) : Nat) : Int))) then ((((kV (a.drop (Int.toNat b)) g).bind fun k => ((kV (a.drop (Int.toNat b)) (wi0 .i64 (g - 1))).bind fun l => (if (!(kU k l)) then ((kV (a.drop (Int.toNat b)) g).bind fun m => ((kV a d).bind fun n => some ((a.set (Int.toNat d) m), (wi0 .i64 (d + 1))))) else some (a, d)))) : Option ((List jm) × Int)).bind fun (h, j) => (nK b i h j (wi0 .i64 (g + 1)))) else some (a, d))
def nN (a0 : List jm) : Nat → Int → Option (List jm)
 | 0, _ => none
 | g + 1, a => (if (decide (a < (a0.length : Int))) then ((kV a0 a).bind fun h => ((kV a0 (wi0 .i64 (a - 1))).bind fun i => (if (kU h i) then ((qR (decide (0 ≤ a) && decide (a ≤ (a0.length : Int)))).bind fun _ => ((nK a jP a0 a 1).bind fun (d, b) => ((qR (decide (0 ≤ b) && decide (b ≤ (d.length : Int)))).bind fun _ => ((qR (decide (0 ≤ b) && decide (b ≤ ((oq d (Int.toNat b) (⟨0, (⟨zS, zS⟩ : jl), zS, (⟨zS, zS⟩ : jl), (⟨zS, zS⟩ : jl), zS⟩ : jm)).length : Int)))).bind fun _ => some ((oq d (Int.toNat b) (⟨0, (⟨zS, zS⟩ : jl), zS, (⟨zS, zS⟩ : jl), (⟨zS, zS⟩ : jl), zS⟩ : jm)).take (Int.toNat b)))))) else (nN a0 g (wi0 .i64 (a + 1)))))) else some a0)
def rK (a0 : List jm) : Option (List jm) :=
 (if (decide ((a0.length : Int) < 2)) then some a0 else nN a0 jP 1)
def tQ (a0 : List jm) : Option (List jm) :=
 ((qQ a0).bind fun g => ((oR g (fun (x : jm) => wV x)).bind fun a => ((yW (fun (x : (jm × jm)) => sL x.1 x.2) a).bind fun b => ((rK b).bind fun d => some d))))
def pD (d : jm) : List jm → Nat → Option Int
 | [], _ => some (-1)
 | b :: a, i46 => (if (kU d b) then some (i46 : Int) else (pD d a (i46 + 1)))
def vr (a0 : List jm) (a : jm) : Option Int :=
 pD a a0 0
def ry (a0 : List jm) (a : jm) : Option Bool :=
 ((vr a0 a).bind fun b => some (decide (b ≥ 0)))
def pf (a0 : List jm) (a : jm) : Option Bool :=
 ((ry a0 a).bind fun b => some b)
def xT (a0 : jm) : Option (List jl) :=
 ((sV a0).bind fun h => (if (!h) then some [] else (((if (a0.Kind != 1) then ((lP 32 ([a0.Head]) ([a0.B])).bind fun g => some g) else some ([a0.Head])) : Option (List jl)).bind fun a => (((if (a0.Kind == 4) then ((lP 32 a ([a0.C])).bind fun d => some d) else some a) : Option (List jl)).bind fun b => some b))))
def nZ (i : jm) (a : List (ByteArray × (List jm))) (g : List jm) : List jl → (List (jl × (List jm))) → Option ((List jm) × (List (jl × (List jm))) × (List (ByteArray × (List jm))))
 | [], b => (if (i.Kind == 3) then ((lP 136 ((kJ kD a i.kC).getD []) ([i])).bind fun k => some (g, b, (nL kD a i.kC k))) else some (g, b, a))
 | d :: h, b => ((lP 136 ((kJ jJ b d).getD []) ([i])).bind fun j => (nZ i a g h (nL jJ b d j)))
def sr (i : List (jl × (List (ByteArray × Bool)))) (a : List jm) (d : List (jl × (List jm))) (b : List (ByteArray × (List jm))) (g : List jE) (l : Int) (j : jm) : Option ((List jm) × (List (jl × (List jm))) × (List (ByteArray × (List jm)))) :=
 ((lP 136 a ([j])).bind fun k => ((xT j).bind fun h => ((qR (decide (0 ≤ 1) && decide (1 ≤ (h.length : Int)))).bind fun _ => nZ j b k (h.drop (Int.toNat 1)) d)))
def nk (a : List (jl × (List (ByteArray × Bool)))) (g : List jm) (i : List (jl × (List jm))) (h : List (ByteArray × (List jm))) (b : List jE) (d : Int) (j : jl) (a2 : ByteArray) : Option ((List (jl × (List (ByteArray × Bool)))) × (List jE) × Int) :=
 (if (yX kD ((kJ jJ a j).getD []) a2 false) then some (a, b, d) else (((if (kJ jJ a j).isNone then ((FD jJ a j ([])).bind fun k => some k) else some a) : Option (List (jl × (List (ByteArray × Bool))))).bind fun l => ((Fj jJ kD l j a2 true).bind fun m => ((lP 48 b ([(⟨j, a2⟩ : jE)])).bind fun n => some (m, n, (wi0 .i64 (d + 1)))))))
def ov (a0 : List (ByteArray × Bool)) : Option Unit :=
 some ()
def qb (a : List (jl × (List (ByteArray × Bool)))) (b : List jm) (h : List (jl × (List jm))) (d : List (ByteArray × (List jm))) (g : List jE) (j : Int) (k : jl) : Option (List ByteArray) :=
 ((ov ((kJ jJ a k).getD [])).bind fun l => ((FM ((kJ jJ a k).getD [])).bind fun i => some i))
def pE (a : List jm) (d : List (jl × (List jm))) (b : List (ByteArray × (List jm))) (a2 : jl) : List ByteArray → (List (jl × (List (ByteArray × Bool)))) → (List jE) → Int → Option ((List (jl × (List (ByteArray × Bool)))) × (List jE) × Int)
 | [], g, h, j => some (g, h, j)
 | l :: k, g, h, j => ((nk g a d b h j a2 l).bind fun i => (pE a d b a2 k i.1 i.2.1 i.2.2))
def tq (h : List (jl × (List (ByteArray × Bool)))) (a : List jm) (g : List (jl × (List jm))) (b : List (ByteArray × (List jm))) (d : List jE) (i : Int) (j a2 : jl) : Option ((List (jl × (List (ByteArray × Bool)))) × (List jE) × Int) :=
 ((qb h a g b d i j).bind fun k => pE a g b a2 k h d i)
def qO (a : List (jl × (List (ByteArray × Bool)))) (d : List jm) (h : List (jl × (List jm))) (g : List (ByteArray × (List jm))) (b : List jE) (i : Int) (j : jm) (a2 : jE) : Option ((List (jl × (List (ByteArray × Bool)))) × (List jE) × Int) :=
 (if (j.Kind == 2) then ((nk a d h g b i j.Head a2.km).bind fun m => some (m.1, m.2.1, m.2.2)) else (if (j.Kind == 3) then ((tq a d h g b i (⟨a2.km, j.kC⟩ : jl) j.Head).bind fun k => some (k.1, k.2.1, k.2.2)) else (if (j.Kind == 4) then ((if (yX kD ((kJ jJ a j.B).getD []) a2.km false) then some (yX kD ((kJ jJ a j.C).getD []) a2.km false) else some false).bind fun n => (if n then ((nk a d h g b i j.Head a2.km).bind fun l => some (l.1, l.2.1, l.2.2)) else some (a, b, i))) else some (a, b, i))))
def oN (a : List jm) (d : List (jl × (List jm))) (b : List (ByteArray × (List jm))) (m : jm) : List ByteArray → (List (jl × (List (ByteArray × Bool)))) → (List jE) → Int → Option ((List (jl × (List (ByteArray × Bool)))) × (List jE) × Int)
 | [], g, h, j => some (g, h, j)
 | l :: k, g, h, j => ((qO g a d b h j m (⟨m.B, l⟩ : jE)).bind fun i => (oN a d b m k i.1 i.2.1 i.2.2))
def rI (h : List (jl × (List (ByteArray × Bool)))) (a : List jm) (g : List (jl × (List jm))) (b : List (ByteArray × (List jm))) (d : List jE) (i : Int) (j : jm) : Option ((List (jl × (List (ByteArray × Bool)))) × (List jE) × Int) :=
 (if (j.Kind == 1) then ((nk h a g b d i j.Head j.km).bind fun l => some (l.1, l.2.1, l.2.2)) else ((qb h a g b d i j.B).bind fun k => oN a g b j k h d i))
def nx (i : jE) (a : List jm) (d : List (jl × (List jm))) (b : List (ByteArray × (List jm))) : List jm → (List (jl × (List (ByteArray × Bool)))) → (List jE) → Int → Option ((List (jl × (List (ByteArray × Bool)))) × (List jE) × Int)
 | [], g, h, j => some (g, h, j)
 | m :: l, g, h, j => (if (yX kD ((kJ jJ g m.B).getD []) i.jl.jq false) then ((nk g a d b h j m.Head i.km).bind fun k => (nx i a d b l k.1 k.2.1 k.2.2)) else (nx i a d b l g h j))
def oE (a : List jm) (d : List (jl × (List jm))) (b : List (ByteArray × (List jm))) (k : jE) : List jm → (List (jl × (List (ByteArray × Bool)))) → (List jE) → Int → Option ((List (jl × (List (ByteArray × Bool)))) × (List jE) × Int)
 | [], g, h, j => some (g, h, j)
 | m :: l, g, h, j => ((qO g a d b h j m k).bind fun i => (oE a d b k l i.1 i.2.1 i.2.2))
def mQ (d : List jm) (b : List (jl × (List jm))) (a : List (ByteArray × (List jm))) : Nat → (List (jl × (List (ByteArray × Bool)))) → (List jE) → Int → Option ((List (jl × (List (ByteArray × Bool)))) × (List jE) × Int)
 | 0, _, _, _ => none
 | p + 1, i, g, j => (if (decide ((g.length : Int) > 0)) then ((kV g 0).bind fun h => ((qR (decide (0 ≤ 1) && decide (1 ≤ (g.length : Int)))).bind fun _ => ((oE d b a h ((kJ jJ b h.jl).getD []) i (g.drop (Int.toNat 1)) j).bind fun (k, l, q) => ((nx h d b a ((kJ kD a h.jl.jv).getD []) k l q).bind fun (m, n, r) => (mQ d b a p m n r))))) else some (i, g, j))
def tZ (h : List (jl × (List (ByteArray × Bool)))) (a : List jm) (g : List (jl × (List jm))) (b : List (ByteArray × (List jm))) (d : List jE) (i : Int) : Option ((List (jl × (List (ByteArray × Bool)))) × (List jE) × Int) :=
 mQ a g b jP h d i
def np (m : Int) : List jm → (List (jl × (List (ByteArray × Bool)))) → (List jm) → (List (jl × (List jm))) → (List (ByteArray × (List jm))) → (List jE) → Int → Option (Int × (List (jl × (List (ByteArray × Bool)))) × (List jm) × (List (jl × (List jm))) × (List (ByteArray × (List jm))) × (List jE) × Int)
 | [], d, a, g, h, i, j => ((tZ d a g h i j).bind fun k => some ((wi0 .i64 (k.2.2 - m)), k.1, a, g, h, k.2.1, k.2.2))
 | l :: p, d, a, g, h, i, j => ((sV l).bind fun q => ((if q then ((pf a l).bind fun r => some (!r)) else some false).bind fun s => (if s then ((sr d a g h i j l).bind fun b => ((rI d b.1 b.2.1 b.2.2 i j l).bind fun n => (np m p n.1 b.1 b.2.1 b.2.2 n.2.1 n.2.2))) else (np m p d a g h i j))))
def tp (h : List (jl × (List (ByteArray × Bool)))) (a : List jm) (g : List (jl × (List jm))) (b : List (ByteArray × (List jm))) (d : List jE) (i : Int) (j : List jm) : Option (Int × (List (jl × (List (ByteArray × Bool)))) × (List jm) × (List (jl × (List jm))) × (List (ByteArray × (List jm))) × (List jE) × Int) :=
 np i j h a g b d i
def uM (a0 : List jm) : Option ((List (jl × (List (ByteArray × Bool)))) × (List jm) × (List (jl × (List jm))) × (List (ByteArray × (List jm))) × (List jE) × Int) :=
 ((tp ([]) ([]) ([]) ([]) ([]) 0 a0).bind fun a => some (a.2.1, a.2.2.1, a.2.2.2.1, a.2.2.2.2.1, a.2.2.2.2.2.1, a.2.2.2.2.2.2))
def pL (a0 g : jE) : Option Int :=
 ((rj a0.jl g.jl).bind fun a => ((pk a0.km g.km).bind fun b => ((uq ([a, b])).bind fun d => some d)))
def vq (d : List (jl × (List (ByteArray × Bool)))) (g : List jm) (j : List (jl × (List jm))) (h : List (ByteArray × (List jm))) (i : List jE) (l : Int) : Option (List jE) :=
 ((Nf 48 (fun (a : jl) (b : ByteArray) => (⟨a, b⟩ : jE)) d).bind fun fs => D7 fs (fun k => ((yW (fun (x : (jE × jE)) => pL x.1 x.2) k).bind fun m => some m)))
def rh (a : List (jl × (List (ByteArray × Bool)))) (b : List jm) (h : List (jl × (List jm))) (d : List (ByteArray × (List jm))) (g : List jE) (i : Int) (j : jl) (a2 : ByteArray) : Option Bool :=
 some (yX kD ((kJ jJ a j).getD []) a2 false)
def qW  : List jm → Int → Option Int
 | [], b => some b
 | a :: d, b => (qW d (wi0 .i64 (b + (wi0 .i64 ((wi0 .i64 ((wi0 .i64 ((wi0 .i64 ((wi0 .i64 ((wi0 .i64 ((wi0 .i64 ((wi0 .i64 (20 + (a.Head.jq.size : Int))) + (a.Head.jv.size : Int))) + (a.km.size : Int))) + (a.B.jq.size : Int))) + (a.B.jv.size : Int))) + (a.C.jq.size : Int))) + (a.C.jv.size : Int))) + (a.kC.size : Int))))))
def uX (a0 : List jm) : Option Int :=
 qW a0 0
def rf  : List Signed → Int → Option Int
 | [], a => some a
 | b :: d, a => ((uX ([b.jm])).bind fun g => (rf d (wi0 .i64 (a + (wi0 .i64 (g + (b.Tag.length : Int)))))))
def pS (h : List Signed) : List Key → Int → Option Int
 | [], a => ((rf h a).bind fun b => some b)
 | d :: g, a => (pS h g (wi0 .i64 (a + (wi0 .i64 ((wi0 .i64 (10 + (d.km.size : Int))) + (d.Key.length : Int))))))
def tI (a0 : List Key) (a : List Signed) : Option Int :=
 pS a a0 0
def pP (a0 : ByteArray) : Nat → Int → Option Bool
 | 0, _ => none
 | d + 1, b => (if (decide (b < (a0.size : Int))) then ((zI a0 b).bind fun a => ((if (decide ((a.toNat : Int) < 97)) then some true else some (decide ((a.toNat : Int) > 122))).bind fun g => ((if g then ((if (decide ((a.toNat : Int) < 48)) then some true else some (decide ((a.toNat : Int) > 57))).bind fun j => some j) else some false).bind fun h => ((if h then some ((a.toNat : Int) != 45) else some false).bind fun i => (if i then some false else (pP a0 d (wi0 .i64 (b + 1)))))))) else some true)
def qF (a0 : ByteArray) : Option Bool :=
 ((if (kD a0 zS) then some true else some (decide ((a0.size : Int) > 16))).bind fun x2 => ((if x2 then some true else ((zI a0 0).bind fun b => some (decide ((b.toNat : Int) < 97)))).bind fun d => ((if d then some true else ((zI a0 0).bind fun a => some (decide ((a.toNat : Int) > 122)))).bind fun g => (if g then some false else pP a0 jP 0))))
def rR (a0 : jl) : Option Bool :=
 ((qF a0.jq).bind fun d => ((if d then ((qF a0.jv).bind fun a => some a) else some false).bind fun b => some b))
def vQ (a0 a : jl) : Option Bool :=
 ((if (pN a0.jq a.jq) then some true else ((if (kD a0.jq a.jq) then some (pN a0.jv a.jv) else some false).bind fun d => some d)).bind fun b => some b)
def ve (a0 : jm) : Option Bool :=
 ((rR a0.Head).bind fun t => (if (!t) then some false else (if (a0.Kind == 1) then ((qF a0.km).bind fun i => ((if i then some (jJ a0.B (⟨zS, zS⟩ : jl)) else some false).bind fun k => ((if k then some (jJ a0.C (⟨zS, zS⟩ : jl)) else some false).bind fun l => ((if l then some (kD a0.kC zS) else some false).bind fun m => some m)))) else ((if (!(kD a0.km zS)) then some true else ((rR a0.B).bind fun d => some (!d))).bind fun n => (if n then some false else (if (a0.Kind == 2) then ((if (jJ a0.C (⟨zS, zS⟩ : jl)) then some (kD a0.kC zS) else some false).bind fun p => some p) else (if (a0.Kind == 3) then ((if (jJ a0.C (⟨zS, zS⟩ : jl)) then some (kD a0.B.jq a0.Head.jq) else some false).bind fun q => ((if q then ((qF a0.kC).bind fun j => some j) else some false).bind fun r => some r)) else ((if (a0.Kind == 4) then some (kD a0.kC zS) else some false).bind fun s => ((if s then ((rR a0.C).bind fun b => some b) else some false).bind fun g => ((if g then ((vQ a0.B a0.C).bind fun a => some a) else some false).bind fun h => some h))))))))))
def sd  : Nat → Int → ByteArray → Option ByteArray
 | 0, _, _ => none
 | n45 + 1, a, b => (if (decide (a ≥ 128)) then ((vP b (DA ([(IntKind.u8.wrap (wi0 .i64 (128 + (Int.tmod a 128))))]))).bind fun d => (sd n45 (wi0 .i64 (Int.tdiv a 128)) d)) else ((vP b (DA ([(IntKind.u8.wrap a)]))).bind fun g => some g))
def qc (a0 : Int) : Option ByteArray :=
 sd jP a0 zS
def ta (a0 : ByteArray) : Option ByteArray :=
 ((qc (a0.size : Int)).bind fun a => ((vP a a0).bind fun b => some b))
def rT (a0 : jl) : Option ByteArray :=
 ((ta a0.jq).bind fun a => ((ta a0.jv).bind fun b => ((vP a b).bind fun d => some d)))
def zw (a0 : jm) : Option ByteArray :=
 ((qc a0.Kind).bind fun g => ((rT a0.Head).bind fun h => ((vP g h).bind fun a => (if (a0.Kind == 1) then ((ta a0.km).bind fun i => ((vP a i).bind fun m => some m)) else ((rT a0.B).bind fun j => ((vP a j).bind fun b => (((if (a0.Kind == 3) then ((ta a0.kC).bind fun l => ((vP b l).bind fun p => some p)) else some b) : Option ByteArray).bind fun d => (((if (a0.Kind == 4) then ((rT a0.C).bind fun k => ((vP d k).bind fun n => some n)) else some d) : Option ByteArray).bind fun q => some q))))))))
def uV (a0 : jm) : Option ByteArray :=
 ((ve a0).bind fun a => (if (!a) then some zS else ((zw a0).bind fun b => some b)))
def rL (a0 d : jm) : Option Int :=
 ((uV a0).bind fun a => ((uV d).bind fun b => (if (pN a b) then some (-1) else (if (!(pN a b || kD a b)) then some 1 else some 0))))
def rc (a : List jm) : List jm → Bool → jm → Option (Bool × jm)
 | [], d, g => some (d, g)
 | b :: h, d, g => ((ve b).bind fun i => ((if i then ((if ((a.length : Int) == 0) then some true else ((kV a (wi0 .i64 ((a.length : Int) - 1))).bind fun q => ((rL q b).bind fun k => some (decide (k < 0))))).bind fun p => some p) else some false).bind fun l => ((if l then ((if (!d) then some true else ((rL b g).bind fun j => some (decide (j < 0)))).bind fun n => some n) else some false).bind fun m => (if m then (rc a h true b) else (rc a h d g)))))
def sK (a0 : List jm) : Nat → (List jm) → Option (List jm)
 | 0, _ => none
 | d + 1, a => ((rc a a0 false (⟨0, (⟨zS, zS⟩ : jl), zS, (⟨zS, zS⟩ : jl), (⟨zS, zS⟩ : jl), zS⟩ : jm)).bind fun (g, h) => (if (!g) then some a else ((lP 136 a ([h])).bind fun b => (sK a0 d b))))
def sF (a0 : List jm) : Option (List jm) :=
 sK a0 jP ([])
def pv (g : List jm) : List jm → Nat → Option Bool
 | [], _ => some true
 | d :: b, i90 => ((kV g (i90 : Int)).bind fun a => (if (!(kU d a)) then some false else (pv g b (i90 + 1))))
def pF (a0 a : List jm) : Option Bool :=
 (if ((a0.length : Int) != (a.length : Int)) then some false else pv a a0 0)
def yA (d : jm) : List jm → Option Bool
 | [] => some false
 | b :: a => (if (kU b d) then some true else (yA d a))
def yV (a0 : List jm) (a : jm) : Option Bool :=
 yA a a0
def sJ (a : List ByteArray) : List ByteArray → ByteArray → Option ByteArray
 | [], d => some d
 | b :: g, d => ((qF b).bind fun i => ((if i then ((if ((a.length : Int) == 0) then some true else ((kV a (wi0 .i64 ((a.length : Int) - 1))).bind fun h => some (!(pN b h || kD b h)))).bind fun m => some m) else some false).bind fun j => ((if j then ((if (kD d zS) then some true else some (pN b d)).bind fun l => some l) else some false).bind fun k => (if k then (sJ a g b) else (sJ a g d)))))
def wy (a0 : List ByteArray) : Nat → (List ByteArray) → Option (List ByteArray)
 | 0, _ => none
 | g + 1, a => ((sJ a a0 zS).bind fun b => (if (kD b zS) then some a else ((lP 16 a ([b])).bind fun d => (wy a0 g d))))
def Br (a0 : List ByteArray) : Option (List ByteArray) :=
 wy a0 jP ([])
def te  : List jm → (List ByteArray) → Option (List ByteArray)
 | [], b => ((Br b).bind fun g => some g)
 | a :: h, b => ((lP 16 b ([a.km, a.Head.jq, a.B.jq, a.C.jq])).bind fun d => (te h d))
def zp (a0 : List jm) : Option (List ByteArray) :=
 te a0 ([])
def wR (g : jl) (a2 : ByteArray) : List jE → Option Bool
 | [] => some false
 | b :: d => ((if (jJ b.jl g) then some (kD b.km a2) else some false).bind fun a => (if a then some true else (wR g a2 d)))
def uP (a0 : List jE) (a : jl) (a2 : ByteArray) : Option Bool :=
 wR a a2 a0
def vv (a0 : List jE) (i : jm) (a3 : ByteArray) : List ByteArray → Option Bool
 | [] => some false
 | a :: b => ((uP a0 i.B a).bind fun d => ((if d then ((uP a0 (⟨a, i.kC⟩ : jl) a3).bind fun g => some g) else some false).bind fun h => (if h then some true else (vv a0 i a3 b))))
def AD (a0 : List jE) (a : jm) (a2 : List ByteArray) (a3 : ByteArray) : Option Bool :=
 (if (a.Kind == 1) then some (kD a.km a3) else (if (a.Kind == 2) then ((uP a0 a.B a3).bind fun g => some g) else (if (a.Kind == 4) then ((uP a0 a.B a3).bind fun h => ((if h then ((uP a0 a.C a3).bind fun b => some b) else some false).bind fun d => some d)) else vv a0 a a3 a2)))
def ul (a0 a : jE) : Option Bool :=
 ((vQ a0.jl a.jl).bind fun g => ((if g then some true else ((if (jJ a0.jl a.jl) then some (pN a0.km a.km) else some false).bind fun d => some d)).bind fun b => some b))
def pn (b a0 : List jE) : List jE → Nat → Int → Option Int
 | [], _, a => some a
 | h :: g, d, a => ((if ((b.length : Int) == 0) then some true else ((kV b (wi0 .i64 ((b.length : Int) - 1))).bind fun p => ((ul p h).bind fun j => some j))).bind fun k => ((if k then ((if (decide (a < 0)) then some true else ((kV a0 a).bind fun n => ((ul h n).bind fun i => some i))).bind fun m => some m) else some false).bind fun l => (if l then (pn b a0 g (d + 1) (d : Int)) else (pn b a0 g (d + 1) a))))
def pj (a0 : List jE) : List jE → (List jE) → Option (List jE)
 | [], a => some a
 | i :: d, a => ((pn a a0 a0 0 (-1)).bind fun b => (if (decide (b ≥ 0)) then ((kV a0 b).bind fun h => ((lP 48 a ([h])).bind fun g => (pj a0 d g))) else (pj a0 d a)))
def B0 (a0 : List jE) : Option (List jE) :=
 pj a0 a0 ([])
def vi (b : jm) (m : List ByteArray) : List ByteArray → (List jE) → Bool → Option ((List jE) × Bool)
 | [], a, g => some (a, g)
 | d :: h, a, g => ((uP a b.Head d).bind fun j => ((if (!j) then ((AD a b m d).bind fun k => some k) else some false).bind fun l => (if l then ((lP 48 a ([(⟨b.Head, d⟩ : jE)])).bind fun i => (vi b m h i true)) else (vi b m h a g))))
def xe (j : List ByteArray) : List jm → (List jE) → Bool → Option ((List jE) × Bool)
 | [], a, b => some (a, b)
 | h :: d, a, b => ((vi h j j a b).bind fun (g, i) => (xe j d g i))
def wX (i : List ByteArray) (j : List jm) : Nat → (List jE) → Option (List jE)
 | 0, _ => none
 | b + 1, h => ((xe i j h false).bind fun (a, g) => (if (!g) then ((B0 a).bind fun d => some d) else (wX i j b a)))
def wg (a0 : List jm) : Option (List jE) :=
 ((sF a0).bind fun b => ((zp b).bind fun a => wX a b jP ([])))
def uw (a0 : List jm) (b : ByteArray) : Option ((List (jl × (List (ByteArray × Bool)))) × (List jm) × (List (jl × (List jm))) × (List (ByteArray × (List jm))) × (List jE) × Int × ByteArray) :=
 ((uM a0).bind fun a => some (a.1, a.2.1, a.2.2.1, a.2.2.2.1, a.2.2.2.2.1, a.2.2.2.2.2, b))
def mO (f1 : kd → Option Bool) : List kd → Nat → Option Int
 | [], _ => some (-1)
 | d :: a, i47 => ((f1 d).bind fun b => (if b then some (i47 : Int) else (mO f1 a (i47 + 1))))
def rU (a0 : List kd) (f1 : kd → Option Bool) : Option Int :=
 mO f1 a0 0
def vy (a0 : kd) (a : jm) : Option Bool :=
 some (kU a0.Signed.jm a)
def xP (a0 : jX) (d : jm) : Option (kd × Bool) :=
 ((rU a0.jF (fun (x : kd) => vy x d)).bind fun a => (if (decide (a < 0)) then some ((⟨(⟨(⟨0, (⟨zS, zS⟩ : jl), zS, (⟨zS, zS⟩ : jl), (⟨zS, zS⟩ : jl), zS⟩ : jm), []⟩ : Signed), (⟨0, 0, (⟨zS, zS⟩ : jl), []⟩ : Formula)⟩ : kd), false) else ((kV a0.jF a).bind fun b => some (b, true))))
def tS (a0 : List nf) : Option (List nf) :=
 ((lP 128 ([]) a0).bind fun a => some a)
def ny (f1 : nf → Option Bool) : List nf → Nat → Option Int
 | [], _ => some (-1)
 | d :: a, i47 => ((f1 d).bind fun b => (if b then some (i47 : Int) else (ny f1 a (i47 + 1))))
def ud (a0 : List nf) (f1 : nf → Option Bool) : Option Int :=
 ny f1 a0 0
def ni (f1 : nf → Option Bool) : Nat → (List nf) → Int → Int → Option (List nf)
 | 0, _, _, _ => none
 | i + 1, b, a, d => (if (decide (d < (b.length : Int))) then ((((kV b d).bind fun g => ((f1 g).bind fun j => (if (!j) then ((kV b a).bind fun l => some ((b.set (Int.toNat a) g), (wi0 .i64 (a + 1)))) else some (b, a)))) : Option ((List nf) × Int)).bind fun (h, k) => (ni f1 i h k (wi0 .i64 (d + 1)))) else ((qR (decide (0 ≤ a) && decide (a ≤ (b.length : Int)))).bind fun _ => ((qR (decide (0 ≤ a) && decide (a ≤ ((oq b (Int.toNat a) (⟨(⟨zS, zS⟩ : jl), (⟨0, 0, (⟨zS, zS⟩ : jl), []⟩ : Formula), []⟩ : nf)).length : Int)))).bind fun _ => some ((oq b (Int.toNat a) (⟨(⟨zS, zS⟩ : jl), (⟨0, 0, (⟨zS, zS⟩ : jl), []⟩ : Formula), []⟩ : nf)).take (Int.toNat a)))))
def qM (a0 : List nf) (f1 : nf → Option Bool) : Option (List nf) :=
 ((ud a0 f1).bind fun a => (if (a == (-1)) then some a0 else ni f1 jP a0 a (wi0 .i64 (a + 1))))
def rl (a0 : nf) (a : jm) : Option Bool :=
 ((pf a0.mo a).bind fun b => some (!b))
def xa (a0 : jX) (b : jm) : Option (List nf) :=
 ((tS a0.jS).bind fun d => ((qM d (fun (x : nf) => rl x b)).bind fun a => some a))
def oV (h : Int) (rec : Formula → Int → Option (Int × Int)) : List Formula → Int → Int → Option (Int × Int)
 | [], a, d => some (a, d)
 | i :: g, a, d => (if (decide (a > h)) then some (a, d) else ((rec i (wi0 .i64 (h - a))).bind fun b => (oV h rec g (wi0 .i64 (a + b.1)) (if b.2 > d then b.2 else d))))
def uL (rec : Formula → Int → Option (Int × Int)) (a0 : Formula) (d : Int) : Option (Int × Int) :=
 ((oV d rec a0.Kids 1 0).bind fun (a, b) => some (a, (wi0 .i64 (b + 1))))
def nP : Nat → Formula → Int → Option (Int × Int)
 | 0 => fun _ _ => none
 | n + 1 => uL (nP n)
def wm (a0 : Formula) : Option (Int × Int) :=
 ((nP jP a0 4096).bind fun a => (if (decide (a.1 > 4096)) then some (0, 0) else some (a.1, a.2)))
def wk (a0 : Formula) : Option Bool :=
 (if (a0.Op == 1) then ((pK a0.jl).bind fun g => ((if g then some ((a0.Kids.length : Int) == 0) else some false).bind fun h => ((if h then some (a0.K == 0) else some false).bind fun i => some i))) else ((if (a0.Op == 2) then some (a0.Op == 2) else some (a0.Op == 3)).bind fun j => (if j then ((if (jJ a0.jl (⟨zS, zS⟩ : jl)) then some (a0.K == 0) else some false).bind fun k => some k) else ((if (a0.Op == 4) then some (jJ a0.jl (⟨zS, zS⟩ : jl)) else some false).bind fun l => ((if l then some (decide (a0.K ≥ 0)) else some false).bind fun a => ((if a then some (decide (a0.K ≤ (a0.Kids.length : Int))) else some false).bind fun b => ((if b then some (decide ((a0.Kids.length : Int) ≥ 1)) else some false).bind fun d => some d)))))))
def mP (f1 : Formula → Option Bool) : List Formula → Nat → Option Int
 | [], _ => some (-1)
 | d :: a, i41 => ((f1 d).bind fun b => (if b then some (i41 : Int) else (mP f1 a (i41 + 1))))
def rO (a0 : List Formula) (f1 : Formula → Option Bool) : Option Int :=
 mP f1 a0 0
def nD (a0 : List Formula) (f1 : Formula → Option Bool) : Option Bool :=
 ((rO a0 f1).bind fun a => some (decide (a ≥ 0)))
def tN (rec : Formula → Option Bool) (a0 : Formula) : Option Bool :=
 ((rec a0).bind fun a => some (!a))
def uO (rec : Formula → Option Bool) (a0 : Formula) : Option Bool :=
 ((wk a0).bind fun d => ((if d then some (decide ((a0.Kids.length : Int) ≤ 8)) else some false).bind fun g => ((if g then ((nD a0.Kids (fun (x : Formula) => tN rec x)).bind fun a => some (!a)) else some false).bind fun b => some b)))
def qy : Nat → Formula → Option Bool
 | 0 => fun _ => none
 | n + 1 => uO (qy n)
def qx (a0 : Formula) : Option Bool :=
 ((wm a0).bind fun b => ((if (decide (b.1 ≥ 1)) then some (decide (b.1 ≤ 64)) else some false).bind fun h => ((if h then some (decide (b.2 ≤ 6)) else some false).bind fun d => ((if d then ((qy jP a0).bind fun a => some a) else some false).bind fun g => some g))))
def sH (a0 : Formula) (a : Int) : Option Bool :=
 ((if (a0.Op == a) then some ((a0.Kids.length : Int) == 0) else some false).bind fun x6 => some x6)
def ye  : Option Formula :=
 some (⟨2, 0, (⟨zS, zS⟩ : jl), []⟩ : Formula)
def yG  : Option Formula :=
 some (⟨3, 0, (⟨zS, zS⟩ : jl), []⟩ : Formula)
def pU (a0 : Int) : List Formula → (List Formula) → Option (List Formula)
 | [], a => some a
 | b :: d, a => (if (b.Op == a0) then ((lP 72 a b.Kids).bind fun g => (pU a0 d g)) else ((lP 72 a ([b])).bind fun h => (pU a0 d h)))
def zD (a0 : Int) (a : List Formula) : Option (List Formula) :=
 pU a0 a ([])
def qf (a0 : Formula) (a : Int) : Option Bool :=
 ((sH a0 a).bind fun b => some b)
def ru (a0 : List Formula) : Option (List Formula) :=
 ((lP 72 ([]) a0).bind fun a => some a)
def lg (p : Int) (f3 : (Formula × Formula) → Option Int) : Nat → (List Formula) → Int → Option (List Formula)
 | 0, _, _ => none
 | h + 1, b, a => ((if (decide (a > p)) then ((kV b a).bind fun k => ((kV b (wi0 .i64 (a - 1))).bind fun l => ((f3 (k, l)).bind fun i => some (decide (i < 0))))) else some false).bind fun j => (if j then ((kV b (wi0 .i64 (a - 1))).bind fun g => ((kV b a).bind fun d => ((kV b a).bind fun m => ((kV (b.set (Int.toNat a) g) (wi0 .i64 (a - 1))).bind fun n => (lg p f3 h ((b.set (Int.toNat a) g).set (Int.toNat (wi0 .i64 (a - 1))) (⟨d.Op, d.K, d.jl, d.Kids⟩ : Formula)) (wi0 .i64 (a - 1))))))) else some b))
def kO (a2 h : Int) (f3 : (Formula × Formula) → Option Int) : Nat → (List Formula) → Int → Option (List Formula)
 | 0, _, _ => none
 | g + 1, b, a => (if (decide (a < a2)) then ((lg h f3 jP b a).bind fun d => (kO a2 h f3 g d (wi0 .i64 (a + 1)))) else some b)
def mF (a0 : List Formula) (a a2 : Int) (f3 : (Formula × Formula) → Option Int) : Option (List Formula) :=
 kO a2 a f3 jP a0 (wi0 .i64 (a + 1))
def lH (a3 a2 h : Int) : Nat → (List Formula) → Int → Option (List Formula)
 | 0, _, _ => none
 | i + 1, b, a => (if (decide (a < a3)) then ((kV b (wi0 .i64 (a2 + a))).bind fun g => ((kV b (wi0 .i64 (h + a))).bind fun d => ((kV b (wi0 .i64 (h + a))).bind fun j => ((kV (b.set (Int.toNat (wi0 .i64 (h + a))) g) (wi0 .i64 (a2 + a))).bind fun k => (lH a3 a2 h i ((b.set (Int.toNat (wi0 .i64 (h + a))) g).set (Int.toNat (wi0 .i64 (a2 + a))) (⟨d.Op, d.K, d.jl, d.Kids⟩ : Formula)) (wi0 .i64 (a + 1))))))) else some b)
def mz (a0 : List Formula) (a a2 a3 : Int) (f4 : (Formula × Formula) → Option Int) : Option (List Formula) :=
 lH a3 a2 a jP a0 0
def lW (a2 : Int) (f4 : (Formula × Formula) → Option Int) : Nat → (List Formula) → Int → Int → Option (List Formula)
 | 0, _, _, _ => none
 | n185 + 1, d, a, b => (if (a != b) then (if (decide (a > b)) then ((mz d (wi0 .i64 (a2 - a)) a2 b f4).bind fun g => (lW a2 f4 n185 g (wi0 .i64 (a - b)) b)) else ((mz d (wi0 .i64 (a2 - a)) (wi0 .i64 ((wi0 .i64 (a2 + b)) - a)) a f4).bind fun h => (lW a2 f4 n185 h a (wi0 .i64 (b - a))))) else ((mz d (wi0 .i64 (a2 - a)) a2 a f4).bind fun i => some i))
def mj (a0 : List Formula) (a a2 a3 : Int) (f4 : (Formula × Formula) → Option Int) : Option (List Formula) :=
 lW a2 f4 jP a0 (wi0 .i64 (a2 - a)) (wi0 .i64 (a3 - a2))
def lL (h : Int) : Nat → (List Formula) → Int → Option (List Formula)
 | 0, _, _ => none
 | i + 1, b, a => (if (decide (a < (wi0 .i64 (h - 1)))) then ((kV b (wi0 .i64 (a + 1))).bind fun g => ((kV b a).bind fun d => ((kV b a).bind fun j => ((kV (b.set (Int.toNat a) g) (wi0 .i64 (a + 1))).bind fun k => (lL h i ((b.set (Int.toNat a) g).set (Int.toNat (wi0 .i64 (a + 1))) (⟨d.Op, d.K, d.jl, d.Kids⟩ : Formula)) (wi0 .i64 (a + 1))))))) else some b)
def kG (a0 : List Formula) (j : Int) (f4 : (Formula × Formula) → Option Int) : Nat → Int → Int → Option (List Formula)
 | 0, _, _ => none
 | n325 + 1, a, b => (if (decide (a < b)) then ((kV a0 (wi0 .i64 (Int.fdiv (IntKind.u64.wrap (wi0 .i64 (a + b))) (2 ^ min (Int.toNat 1) (IntKind.bits .u64))))).bind fun h => ((kV a0 j).bind fun i => ((f4 (h, i)).bind fun g => (if (decide (g < 0)) then (kG a0 j f4 n325 (wi0 .i64 ((wi0 .i64 (Int.fdiv (IntKind.u64.wrap (wi0 .i64 (a + b))) (2 ^ min (Int.toNat 1) (IntKind.bits .u64)))) + 1)) b) else (kG a0 j f4 n325 a (wi0 .i64 (Int.fdiv (IntKind.u64.wrap (wi0 .i64 (a + b))) (2 ^ min (Int.toNat 1) (IntKind.bits .u64))))))))) else ((lL a jP a0 j).bind fun d => some d))
def lK (g : Int) : Nat → (List Formula) → Int → Option (List Formula)
 | 0, _, _ => none
 | i + 1, b, a => (if (decide (a > g)) then ((kV b (wi0 .i64 (a - 1))).bind fun h => ((kV b a).bind fun d => ((kV b a).bind fun j => ((kV (b.set (Int.toNat a) h) (wi0 .i64 (a - 1))).bind fun k => (lK g i ((b.set (Int.toNat a) h).set (Int.toNat (wi0 .i64 (a - 1))) (⟨d.Op, d.K, d.jl, d.Kids⟩ : Formula)) (wi0 .i64 (a - 1))))))) else some b)
def kH (a0 : List Formula) (a2 : Int) (f4 : (Formula × Formula) → Option Int) : Nat → Int → Int → Option (List Formula)
 | 0, _, _ => none
 | d + 1, a, b => (if (decide (a < b)) then ((kV a0 a2).bind fun i => ((kV a0 (wi0 .i64 (Int.fdiv (IntKind.u64.wrap (wi0 .i64 (a + b))) (2 ^ min (Int.toNat 1) (IntKind.bits .u64))))).bind fun j => ((f4 (i, j)).bind fun h => (if (!(decide (h < 0))) then (kH a0 a2 f4 d (wi0 .i64 ((wi0 .i64 (Int.fdiv (IntKind.u64.wrap (wi0 .i64 (a + b))) (2 ^ min (Int.toNat 1) (IntKind.bits .u64)))) + 1)) b) else (kH a0 a2 f4 d a (wi0 .i64 (Int.fdiv (IntKind.u64.wrap (wi0 .i64 (a + b))) (2 ^ min (Int.toNat 1) (IntKind.bits .u64))))))))) else ((lK a jP a0 a2).bind fun g => some g))
def ku (a0 : List Formula) (d a3 a2 : Int) (f4 : (Formula × Formula) → Option Int) (rec : (List Formula) → Int → Int → Int → ((Formula × Formula) → Option Int) → Option (List Formula)) : Nat → Int → Int → Option (List Formula)
 | 0, _, _ => none
 | i + 1, a, b => (if (decide (a < b)) then ((kV a0 (wi0 .i64 ((wi0 .i64 ((wi0 .i64 ((wi0 .i64 (Int.fdiv (IntKind.u64.wrap (wi0 .i64 (d + a3))) (2 ^ min (Int.toNat 1) (IntKind.bits .u64)))) + a2)) - 1)) - (wi0 .i64 (Int.fdiv (IntKind.u64.wrap (wi0 .i64 (a + b))) (2 ^ min (Int.toNat 1) (IntKind.bits .u64))))))).bind fun n => ((kV a0 (wi0 .i64 (Int.fdiv (IntKind.u64.wrap (wi0 .i64 (a + b))) (2 ^ min (Int.toNat 1) (IntKind.bits .u64))))).bind fun p => ((f4 (n, p)).bind fun j => (if (!(decide (j < 0))) then (ku a0 d a3 a2 f4 rec i (wi0 .i64 ((wi0 .i64 (Int.fdiv (IntKind.u64.wrap (wi0 .i64 (a + b))) (2 ^ min (Int.toNat 1) (IntKind.bits .u64)))) + 1)) b) else (ku a0 d a3 a2 f4 rec i a (wi0 .i64 (Int.fdiv (IntKind.u64.wrap (wi0 .i64 (a + b))) (2 ^ min (Int.toNat 1) (IntKind.bits .u64))))))))) else ((((if (decide (a < a2)) then some (decide (a2 < (wi0 .i64 ((wi0 .i64 ((wi0 .i64 (Int.fdiv (IntKind.u64.wrap (wi0 .i64 (d + a3))) (2 ^ min (Int.toNat 1) (IntKind.bits .u64)))) + a2)) - a)))) else some false).bind fun s => (if s then ((mj a0 a a2 (wi0 .i64 ((wi0 .i64 ((wi0 .i64 (Int.fdiv (IntKind.u64.wrap (wi0 .i64 (d + a3))) (2 ^ min (Int.toNat 1) (IntKind.bits .u64)))) + a2)) - a)) f4).bind fun m => some m) else some a0)) : Option (List Formula)).bind fun g => ((((if (decide (d < a)) then some (decide (a < (wi0 .i64 (Int.fdiv (IntKind.u64.wrap (wi0 .i64 (d + a3))) (2 ^ min (Int.toNat 1) (IntKind.bits .u64)))))) else some false).bind fun r => (if r then ((rec g d a (wi0 .i64 (Int.fdiv (IntKind.u64.wrap (wi0 .i64 (d + a3))) (2 ^ min (Int.toNat 1) (IntKind.bits .u64)))) f4).bind fun l => some l) else some g)) : Option (List Formula)).bind fun h => ((if (decide ((wi0 .i64 (Int.fdiv (IntKind.u64.wrap (wi0 .i64 (d + a3))) (2 ^ min (Int.toNat 1) (IntKind.bits .u64)))) < (wi0 .i64 ((wi0 .i64 ((wi0 .i64 (Int.fdiv (IntKind.u64.wrap (wi0 .i64 (d + a3))) (2 ^ min (Int.toNat 1) (IntKind.bits .u64)))) + a2)) - a)))) then some (decide ((wi0 .i64 ((wi0 .i64 ((wi0 .i64 (Int.fdiv (IntKind.u64.wrap (wi0 .i64 (d + a3))) (2 ^ min (Int.toNat 1) (IntKind.bits .u64)))) + a2)) - a)) < a3)) else some false).bind fun q => (if q then ((rec h (wi0 .i64 (Int.fdiv (IntKind.u64.wrap (wi0 .i64 (d + a3))) (2 ^ min (Int.toNat 1) (IntKind.bits .u64)))) (wi0 .i64 ((wi0 .i64 ((wi0 .i64 (Int.fdiv (IntKind.u64.wrap (wi0 .i64 (d + a3))) (2 ^ min (Int.toNat 1) (IntKind.bits .u64)))) + a2)) - a)) a3 f4).bind fun k => some k) else some h)))))
def oI (rec : (List Formula) → Int → Int → Int → ((Formula × Formula) → Option Int) → Option (List Formula)) (a0 : List Formula) (a a2 a3 : Int) (f4 : (Formula × Formula) → Option Int) : Option (List Formula) :=
 (if ((wi0 .i64 (a2 - a)) == 1) then kG a0 a f4 jP a2 a3 else (if ((wi0 .i64 (a3 - a2)) == 1) then kH a0 a2 f4 jP a a2 else (((if (decide (a2 > (wi0 .i64 (Int.fdiv (IntKind.u64.wrap (wi0 .i64 (a + a3))) (2 ^ min (Int.toNat 1) (IntKind.bits .u64)))))) then some ((wi0 .i64 ((wi0 .i64 ((wi0 .i64 (Int.fdiv (IntKind.u64.wrap (wi0 .i64 (a + a3))) (2 ^ min (Int.toNat 1) (IntKind.bits .u64)))) + a2)) - a3)), (wi0 .i64 (Int.fdiv (IntKind.u64.wrap (wi0 .i64 (a + a3))) (2 ^ min (Int.toNat 1) (IntKind.bits .u64))))) else some (a, a2)) : Option (Int × Int)).bind fun (b, d) => ku a0 a a3 a2 f4 rec jP b d)))
def kR : Nat → (List Formula) → Int → Int → Int → ((Formula × Formula) → Option Int) → Option (List Formula)
 | 0 => fun _ _ _ _ _ => none
 | n + 1 => oI (kR n)
def lV (j b : Int) (f2 : (Formula × Formula) → Option Int) : Nat → (List Formula) → Int → Int → Option ((List Formula) × Int)
 | 0, _, _, _ => none
 | h + 1, g, d, a => (if (decide (a ≤ j)) then ((kR jP g d (wi0 .i64 (d + b)) a f2).bind fun i => (lV j b f2 h i a (wi0 .i64 (a + (wi0 .i64 (2 * b)))))) else some (g, d))
def lE (k : Int) (f2 : (Formula × Formula) → Option Int) : Nat → (List Formula) → Int → Option (List Formula)
 | 0, _, _ => none
 | i + 1, d, a => (if (decide (a < k)) then ((lV k a f2 jP d 0 (wi0 .i64 (2 * a))).bind fun (g, b) => (((if (decide ((wi0 .i64 (b + a)) < k)) then ((kR jP g b (wi0 .i64 (b + a)) k f2).bind fun j => some j) else some g) : Option (List Formula)).bind fun h => (lE k f2 i h (wi0 .i64 (a * 2))))) else some d)
def lF (j : Int) (f2 : (Formula × Formula) → Option Int) : Nat → (List Formula) → Int → Int → Option (List Formula)
 | 0, _, _, _ => none
 | n123 + 1, d, i, a => (if (decide (a ≤ j)) then ((mF d i a f2).bind fun g => (lF j f2 n123 g a (wi0 .i64 (a + 20)))) else ((mF d i j f2).bind fun h => ((lE j f2 jP h 20).bind fun b => some b)))
def qu (a0 : List Formula) (a : Int) (f2 : (Formula × Formula) → Option Int) : Option (List Formula) :=
 lF a f2 jP a0 0 20
def oy (a0 : List Formula) (f1 : (Formula × Formula) → Option Int) : Option (List Formula) :=
 ((qu a0 (a0.length : Int) f1).bind fun a => some a)
def pV (rec : (List Int) → Formula → Option (List Int)) : List Formula → (List Int) → Option (List Int)
 | [], a => some a
 | g :: b, a => ((rec a g).bind fun d => (pV rec b d))
def uT (rec : (List Int) → Formula → Option (List Int)) (b : List Int) (a : Formula) : Option (List Int) :=
 ((nF b a.Op).bind fun i => (if (a.Op == 1) then ((pI i.2 a.jl).bind fun h => some h.2) else (((if (a.Op == 4) then ((nF i.2 a.K).bind fun d => some d.2) else some i.2) : Option (List Int)).bind fun g => ((nF g (a.Kids.length : Int)).bind fun j => pV rec a.Kids j.2))))
def pt : Nat → (List Int) → Formula → Option (List Int)
 | 0 => fun _ _ => none
 | n + 1 => uT (pt n)
def vz (a : List Int) (b : Formula) : Option (Bool × (List Int)) :=
 ((qx b).bind fun d => (if (!d) then some (false, a) else ((pt jP a b).bind fun g => some (true, g))))
def sb (a0 : Formula) : Option (List Int) :=
 ((vz ([]) a0).bind fun b => ((sS b.2).bind fun a => some a))
def rX (a0 g : Formula) : Option Int :=
 ((sb a0).bind fun a => ((sb g).bind fun b => ((vH a b).bind fun d => some d)))
def uA (a0 : List Formula) : Option (List Formula) :=
 ((ru a0).bind fun b => ((oy b (fun (x : (Formula × Formula)) => rX x.1 x.2)).bind fun a => some a))
def mg (b : Int) (f1 : (Formula × Formula) → Option Bool) : Nat → (List Formula) → Int → Int → Option ((List Formula) × Int)
 | 0, _, _, _ => none
 | i + 1, a, d, g => (if (decide (g < ((a.length - (Int.toNat b) : Nat) : Int))) then ((((kV (a.drop (Int.toNat b)) g).bind fun l => ((kV (a.drop (Int.toNat b)) (wi0 .i64 (g - 1))).bind fun m => ((f1 (l, m)).bind fun j => (if (!j) then ((kV (a.drop (Int.toNat b)) g).bind fun n => ((kV a d).bind fun p => some ((a.set (Int.toNat d) n), (wi0 .i64 (d + 1))))) else some (a, d))))) : Option ((List Formula) × Int)).bind fun (h, k) => (mg b f1 i h k (wi0 .i64 (g + 1)))) else some (a, d))
def me (a0 : List Formula) (f1 : (Formula × Formula) → Option Bool) : Nat → Int → Option (List Formula)
 | 0, _ => none
 | g + 1, a => (if (decide (a < (a0.length : Int))) then ((kV a0 a).bind fun i => ((kV a0 (wi0 .i64 (a - 1))).bind fun j => ((f1 (i, j)).bind fun h => (if h then ((qR (decide (0 ≤ a) && decide (a ≤ (a0.length : Int)))).bind fun _ => ((mg a f1 jP a0 a 1).bind fun (d, b) => ((qR (decide (0 ≤ b) && decide (b ≤ (d.length : Int)))).bind fun _ => ((qR (decide (0 ≤ b) && decide (b ≤ ((oq d (Int.toNat b) (⟨0, 0, (⟨zS, zS⟩ : jl), []⟩ : Formula)).length : Int)))).bind fun _ => some ((oq d (Int.toNat b) (⟨0, 0, (⟨zS, zS⟩ : jl), []⟩ : Formula)).take (Int.toNat b)))))) else (me a0 f1 g (wi0 .i64 (a + 1))))))) else some a0)
def pb (a0 : List Formula) (f1 : (Formula × Formula) → Option Bool) : Option (List Formula) :=
 (if (decide ((a0.length : Int) < 2)) then some a0 else me a0 f1 jP 1)
def kF (h : List Formula) (f2 : (Formula × Formula) → Option Bool) : List Formula → Nat → Option Bool
 | [], _ => some true
 | g :: d, i95 => ((kV h (i95 : Int)).bind fun b => ((f2 (g, b)).bind fun a => (if (!a) then some false else (kF h f2 d (i95 + 1)))))
def mf (a0 a : List Formula) (f2 : (Formula × Formula) → Option Bool) : Option Bool :=
 (if ((a0.length : Int) != (a.length : Int)) then some false else kF a f2 a0 0)
def vp (rec : Formula → Formula → Option Bool) (a0 a : Formula) : Option Bool :=
 ((if (a0.Op == a.Op) then some (a0.K == a.K) else some false).bind fun d => ((if d then some (jJ a0.jl a.jl) else some false).bind fun g => ((if g then ((mf a0.Kids a.Kids (fun (x : (Formula × Formula)) => rec x.1 x.2)).bind fun b => some b) else some false).bind fun h => some h)))
def nJ : Nat → Formula → Formula → Option Bool
 | 0 => fun _ _ => none
 | n + 1 => vp (nJ n)
def nM (a0 : kk) (d : Int) (a2 : List Formula) : Option (Formula × kk) :=
 ((zD d a2).bind fun j => ((nD j (fun (x : Formula) => qf x (wi0 .i64 (5 - d)))).bind fun g => (if g then some ((⟨(wi0 .i64 (5 - d)), 0, (⟨zS, zS⟩ : jl), []⟩ : Formula), a0) else ((uA j).bind fun h => ((pb h (fun (x : (Formula × Formula)) => nJ jP x.1 x.2)).bind fun a => (((if (decide ((a.length : Int) > 64)) then some (⟨12⟩ : kk) else some a0) : Option kk).bind fun b => (if ((a.length : Int) == 1) then ((kV a 0).bind fun i => some (i, b)) else some ((⟨d, 0, (⟨zS, zS⟩ : jl), a⟩ : Formula), b))))))))
def mc (a0 : kk) : List Formula → Int → (List Formula) → Option (Formula × kk)
 | [], b, a => (if (decide (b ≤ 0)) then (ye.bind fun m => some (m, a0)) else (if (decide (b > (a.length : Int))) then (yG.bind fun n => some (n, a0)) else (if (b == (a.length : Int)) then ((nM a0 2 a).bind fun h => some (h.1, h.2)) else (if (b == 1) then ((nM a0 3 a).bind fun i => some (i.1, i.2)) else ((uA a).bind fun p => some ((⟨4, b, (⟨zS, zS⟩ : jl), p⟩ : Formula), a0))))))
 | g :: d, b, a => ((sH g 2).bind fun k => (if k then (mc a0 d (wi0 .i64 (b - 1)) a) else ((sH g 3).bind fun l => (if (!l) then ((lP 72 a ([g])).bind fun j => (mc a0 d b j)) else (mc a0 d b a)))))
def qg (a0 : kk) (a : Int) (a2 : List Formula) : Option (Formula × kk) :=
 mc a0 a2 a ([])
def nj (rec : kk → Formula → Option (Formula × kk)) (l : Formula) : List Formula → (List Formula) → kk → Option (Formula × kk)
 | [], a, b => (if (l.Op == 4) then ((qg b l.K a).bind fun g => some (g.1, g.2)) else ((nM b l.Op a).bind fun h => some (h.1, h.2)))
 | k :: i, a, b => ((rec b k).bind fun d => ((lP 72 a ([d.1])).bind fun j => (nj rec l i j d.2)))
def rk (rec : kk → Formula → Option (Formula × kk)) (a0 : kk) (a : Formula) : Option (Formula × kk) :=
 (if (a.Op == 1) then some (a, a0) else nj rec a a.Kids ([]) a0)
def mK : Nat → kk → Formula → Option (Formula × kk)
 | 0 => fun _ _ => none
 | n + 1 => rk (mK n)
def wO (a0 : Formula) : Option (Formula × Int) :=
 ((qx a0).bind fun g => (if (!g) then some ((⟨0, 0, (⟨zS, zS⟩ : jl), []⟩ : Formula), 11) else ((mK jP (⟨0⟩ : kk) a0).bind fun a => ((if (a.2.e != 0) then some true else ((qx a.1).bind fun b => some (!b))).bind fun d => (if d then some ((⟨0, 0, (⟨zS, zS⟩ : jl), []⟩ : Formula), 12) else some (a.1, 0))))))
def wW (a0 b : Formula) : Option (Formula × Int) :=
 ((wO (⟨2, 0, (⟨zS, zS⟩ : jl), [a0, b]⟩ : Formula)).bind fun a => some (a.1, a.2))
def sG  : List Formula → Int → Int → Int → jl → (List Formula) → Option (Int × Int × Int × jl × (List Formula))
 | [], d, g, h, i, b => some (d, g, h, i, b)
 | k :: j, d, g, h, i, b => (if (d != 0) then some (d, g, h, i, b) else ((wW (⟨g, h, i, b⟩ : Formula) k).bind fun a => (sG j a.2 ((a.1).Op) ((a.1).K) ((a.1).jl) ((a.1).Kids))))
def vk (a0 : List Formula) : Option (Formula × Int) :=
 ((kV a0 0).bind fun x6 => ((wO x6).bind fun a => ((qR (decide (0 ≤ 1) && decide (1 ≤ (a0.length : Int)))).bind fun _ => ((sG (a0.drop (Int.toNat 1)) a.2 ((a.1).Op) ((a.1).K) ((a.1).jl) ((a.1).Kids)).bind fun (b, g, h, i, d) => (if (b != 0) then some ((⟨0, 0, (⟨zS, zS⟩ : jl), []⟩ : Formula), b) else some ((⟨g, h, i, d⟩ : Formula), 0))))))
def tF  : List nf → (List Formula) → Option (Formula × Int)
 | [], a => ((vk a).bind fun b => some (b.1, b.2))
 | h :: d, a => ((lP 72 a ([h.jw])).bind fun g => (tF d g))
def zX (a0 : jX) (d : jm) : Option (Formula × Int) :=
 ((xP a0 d).bind fun a => (if (!a.2) then some ((⟨0, 0, (⟨zS, zS⟩ : jl), []⟩ : Formula), 42) else ((xa a0 d).bind fun b => tF b ([(a.1).jw]))))
def oU (rec : Formula → (jl → Option Bool) → Option Bool) (f1 : jl → Option Bool) (a0 : Formula) : List Formula → Int → Option Bool
 | [], a => (if (a0.Op == 2) then some (a == (a0.Kids.length : Int)) else (if (a0.Op == 3) then some (decide (a > 0)) else some (decide (a ≥ a0.K))))
 | g :: b, a => ((rec g f1).bind fun d => (if d then (oU rec f1 a0 b (wi0 .i64 (a + 1))) else (oU rec f1 a0 b a)))
def uN (rec : Formula → (jl → Option Bool) → Option Bool) (a0 : Formula) (f1 : jl → Option Bool) : Option Bool :=
 (if (a0.Op == 1) then ((f1 a0.jl).bind fun a => some a) else oU rec f1 a0 a0.Kids 0)
def px : Nat → Formula → (jl → Option Bool) → Option Bool
 | 0 => fun _ _ => none
 | n + 1 => uN (px n)
def sI (a0 : Formula) (f1 : jl → Option Bool) : Option Bool :=
 ((qx a0).bind fun d => ((if d then ((px jP a0 f1).bind fun a => some a) else some false).bind fun b => some b))
def py (a0 : jl) (h : List (jl × (List (ByteArray × Bool)))) (a : List jm) (g : List (jl × (List jm))) (b : List (ByteArray × (List jm))) (d : List jE) (i : Int) (c1 : ByteArray) : Option Bool :=
 ((rh h a g b d i a0 c1).bind fun j => some j)
def qt (a0 : jX) (d : ((List (jl × (List (ByteArray × Bool)))) × (List jm) × (List (jl × (List jm))) × (List (ByteArray × (List jm))) × (List jE) × Int × ByteArray)) : List kd → (List jm) → Option (List jm)
 | [], a => ((tQ a).bind fun j => some j)
 | g :: b, a => ((zX a0 g.Signed.jm).bind fun r417 => ((if (r417.2 == 0) then ((sI r417.1 (fun (x : jl) => py x d.1 d.2.1 d.2.2.1 d.2.2.2.1 d.2.2.2.2.1 d.2.2.2.2.2.1 d.2.2.2.2.2.2)).bind fun i => some i) else some false).bind fun k => (if k then ((lP 136 a ([g.Signed.jm])).bind fun h => (qt a0 d b h)) else (qt a0 d b a))))
def oQ (a0 : jX) (a : List jm) (a2 : ByteArray) : Option (List jm) :=
 ((uw a a2).bind fun b => qt a0 b a0.jF ([]))
def nI (a0 k : jX) : Nat → (List jm) → (List jm) → Int → Option ((List jm) × (List jm) × Int)
 | 0, _, _, _ => none
 | i + 1, a, b, h => ((oQ a0 b k.Name).bind fun d => ((oQ k a a0.Name).bind fun g => ((if ((d.length : Int) == (a.length : Int)) then some ((g.length : Int) == (b.length : Int)) else some false).bind fun j => (if j then some (a, b, h) else (nI a0 k i d g (wi0 .i64 (h + 1)))))))
def sE (a0 a : jX) : Option ((List jm) × (List jm) × Int) :=
 nI a0 a jP ([]) ([]) 0
def re (rec : (List Formula) → Option Int) : List Formula → Int → Option Int
 | [], b => some b
 | a :: g, b => ((rec a.Kids).bind fun d => (re rec g (wi0 .i64 (b + (wi0 .i64 ((wi0 .i64 (1 + (wi0 .i64 (Int.tdiv (wi0 .i64 ((a.jl.jq.size : Int) + (a.jl.jv.size : Int))) 16)))) + d))))))
def vN (rec : (List Formula) → Option Int) (a0 : List Formula) : Option Int :=
 re rec a0 0
def ow : Nat → (List Formula) → Option Int
 | 0 => fun _ => none
 | n + 1 => vN (ow n)
def ri  : List nf → Int → Option Int
 | [], b => some b
 | a :: d, b => ((ow jP ([a.jw])).bind fun g => ((uX a.mo).bind fun h => (ri d (wi0 .i64 (b + (wi0 .i64 ((wi0 .i64 ((wi0 .i64 ((a.jl.jq.size : Int) + (a.jl.jv.size : Int))) + (wi0 .i64 (20 * g)))) + h)))))))
def qY (a0 : jX) : List kd → Int → Option Int
 | [], a => ((ri a0.jS a).bind fun d => some d)
 | b :: g, a => ((((tI ([]) ([b.Signed])).bind fun j => some (j, ([b.jw]))) : Option (Int × (List Formula))).bind fun (k, h) => ((ow jP h).bind fun i => (qY a0 g (wi0 .i64 (a + (wi0 .i64 (k + (wi0 .i64 (20 * i)))))))))
def vh (a0 : jX) : Option Int :=
 qY a0 a0.jF (a0.Name.size : Int)
def xg (a0 : mM) : Option Int :=
 ((((vh a0.jq).bind fun g => ((vh a0.Client).bind fun h => some ((wi0 .i64 (g + h)), ([a0.Formula])))) : Option (Int × (List Formula))).bind fun (i, a) => ((ow jP a).bind fun b => ((tI a0.Keys ([])).bind fun d => some (wi0 .i64 ((wi0 .i64 (i + (wi0 .i64 (20 * b)))) + d)))))
def qX (h : ByteArray) : List jE → (List jl) → Option (List jl)
 | [], a => some a
 | g :: b, a => (if (kD g.km h) then ((lP 32 a ([g.jl])).bind fun d => (qX h b d)) else (qX h b a))
def tC (a0 : List jE) (a : ByteArray) : Option (List jl) :=
 qX a a0 ([])
def sR (rec : Formula → Option Int) : List Formula → Int → Option Int
 | [], a => some a
 | g :: d, a => ((rec g).bind fun b => (sR rec d (wi0 .i64 (a + b))))
def zk (rec : Formula → Option Int) (a0 : Formula) : Option Int :=
 sR rec a0.Kids 1
def uU : Nat → Formula → Option Int
 | 0 => fun _ => none
 | n + 1 => zk (uU n)
def tO (rec : Formula → Option Int) : List Formula → Int → Option Int
 | [], a => some (wi0 .i64 (a + 1))
 | g :: d, a => ((rec g).bind fun b => (tO rec d (if b > a then b else a)))
def zM (rec : Formula → Option Int) (a0 : Formula) : Option Int :=
 tO rec a0.Kids 0
def vL : Nat → Formula → Option Int
 | 0 => fun _ => none
 | n + 1 => zM (vL n)
def tX (rec : Formula → Option Bool) : List Formula → Option Bool
 | [] => some true
 | d :: a => ((rec d).bind fun b => (if (!b) then some false else (tX rec a)))
def zJ (rec : Formula → Option Bool) (a0 : Formula) : Option Bool :=
 (if (a0.Op == 1) then ((rR a0.jl).bind fun n => ((if n then some ((a0.Kids.length : Int) == 0) else some false).bind fun h => ((if h then some (a0.K == 0) else some false).bind fun i => some i))) else ((if (decide (a0.Op < 1)) then some true else some (decide (a0.Op > 4))).bind fun j => ((if j then some true else some (!(jJ a0.jl (⟨zS, zS⟩ : jl)))).bind fun k => ((if k then some true else some (decide ((a0.Kids.length : Int) > 8))).bind fun l => (if l then some false else ((if (decide (a0.Op < 4)) then some (a0.K != 0) else some false).bind fun m => ((if m then some true else ((if (a0.Op == 4) then ((if (decide ((a0.Kids.length : Int) < 1)) then some true else some (decide (a0.K < 0))).bind fun d => ((if d then some true else some (decide (a0.K > (a0.Kids.length : Int)))).bind fun g => some g)) else some false).bind fun b => some b)).bind fun a => (if a then some false else tX rec a0.Kids))))))))
def vW : Nat → Formula → Option Bool
 | 0 => fun _ => none
 | n + 1 => zJ (vW n)
def qC (a0 : Formula) : Option Bool :=
 ((uU jP a0).bind fun h => ((if (decide (h ≤ 64)) then ((vL jP a0).bind fun b => some (decide (b ≤ 6))) else some false).bind fun d => ((if d then ((vW jP a0).bind fun a => some a) else some false).bind fun g => some g)))
def vY (a0 : Formula) (a : Int) : Option Bool :=
 ((if (a0.Op == a) then some ((a0.Kids.length : Int) == 0) else some false).bind fun x6 => some x6)
def sU (rec : Formula → Option ByteArray) : List Formula → ByteArray → Option ByteArray
 | [], a => some a
 | h :: g, a => ((rec h).bind fun b => ((vP a b).bind fun d => (sU rec g d)))
def zg (rec : Formula → Option ByteArray) (a0 : Formula) : Option ByteArray :=
 ((qc a0.Op).bind fun g => (if (a0.Op == 1) then ((rT a0.jl).bind fun k => ((vP g k).bind fun h => some h)) else (((if (a0.Op == 4) then ((qc a0.K).bind fun a => ((vP g a).bind fun b => some b)) else some g) : Option ByteArray).bind fun j => ((qc (a0.Kids.length : Int)).bind fun d => ((vP j d).bind fun i => sU rec a0.Kids i)))))
def rS : Nat → Formula → Option ByteArray
 | 0 => fun _ => none
 | n + 1 => zg (rS n)
def xM (a0 j : Formula) : Option Int :=
 ((((qC a0).bind fun h => (if h then ((rS jP a0).bind fun i => some i) else some zS)) : Option ByteArray).bind fun a => ((((qC j).bind fun d => (if d then ((rS jP j).bind fun g => some g) else some zS)) : Option ByteArray).bind fun b => (if (pN a b) then some (-1) else (if (!(pN a b || kD a b)) then some 1 else some 0))))
def tT (h : Formula) (rec : Formula → Formula → Option Bool) : List Formula → Nat → Option Bool
 | [], _ => some true
 | d :: a, i182 => ((kV h.Kids (i182 : Int)).bind fun g => ((rec d g).bind fun b => (if (!b) then some false else (tT h rec a (i182 + 1)))))
def zK (rec : Formula → Formula → Option Bool) (a0 a : Formula) : Option Bool :=
 ((if (a0.Op != a.Op) then some true else some (a0.K != a.K)).bind fun b => ((if b then some true else some (!(jJ a0.jl a.jl))).bind fun d => ((if d then some true else some ((a0.Kids.length : Int) != (a.Kids.length : Int))).bind fun g => (if g then some false else tT a rec a0.Kids 0))))
def uv : Nat → Formula → Formula → Option Bool
 | 0 => fun _ _ => none
 | n + 1 => zK (uv n)
def se (b : List Formula) (d : Formula) : Nat → Int → Option Int
 | 0, _ => none
 | g + 1, a => ((if (decide (a > 0)) then ((kV b (wi0 .i64 (a - 1))).bind fun j => ((xM j d).bind fun h => some (decide (h > 0)))) else some false).bind fun i => (if i then (se b d g (wi0 .i64 (a - 1))) else some a))
def ms (p : Bool) : List Formula → (List Formula) → Option (List Formula)
 | [], a => some a
 | d :: g, a => ((se a d jP (a.length : Int)).bind fun b => ((if p then some (decide (b > 0)) else some false).bind fun l => ((if l then ((kV a (wi0 .i64 (b - 1))).bind fun n => ((uv jP n d).bind fun k => some k)) else some false).bind fun m => (if m then (ms p g a) else ((qR (decide (0 ≤ b) && decide (b ≤ (a.length : Int)))).bind fun _ => ((lP 72 ([]) (a.take (Int.toNat b))).bind fun h => ((lP 72 h ([d])).bind fun i => ((qR (decide (0 ≤ b) && decide (b ≤ (a.length : Int)))).bind fun _ => ((lP 72 i (a.drop (Int.toNat b))).bind fun j => (ms p g j))))))))))
def wh (a0 : List Formula) (a : Bool) : Option (List Formula) :=
 ms a a0 ([])
def ql (g : Int) (a0 : mA) : List Formula → Option ((Formula × mA) ⊕ Unit)
 | [] => some (Sum.inr ())
 | d :: a => ((vY d (wi0 .i64 (5 - g))).bind fun b => (if b then some (Sum.inl ((⟨(wi0 .i64 (5 - g)), 0, (⟨zS, zS⟩ : jl), []⟩ : Formula), a0)) else (ql g a0 a)))
def mW (i : Int) (a0 : mA) : List Formula → (List Formula) → Option (Formula × mA)
 | [], a => ((ql i a0 a).bind fun s => match s with | .inl l => some l | .inr _ => ((wh a true).bind fun b => ((if a0.RB then some true else some (decide ((b.length : Int) > 64))).bind fun h => (if ((b.length : Int) == 1) then ((kV b 0).bind fun n => some (n, (⟨h⟩ : mA))) else some ((⟨i, 0, (⟨zS, zS⟩ : jl), b⟩ : Formula), (⟨h⟩ : mA))))))
 | d :: g, a => (if (d.Op == i) then ((lP 72 a d.Kids).bind fun j => (mW i a0 g j)) else ((vY d (wi0 .i64 (5 - i))).bind fun m => (if m then some ((⟨(wi0 .i64 (5 - i)), 0, (⟨zS, zS⟩ : jl), []⟩ : Formula), a0) else ((lP 72 a ([d])).bind fun k => (mW i a0 g k)))))
def pZ (a0 : mA) (a : Int) (a2 : List Formula) : Option (Formula × mA) :=
 mW a a0 a2 ([])
def mR  : List Formula → Int → (List Formula) → Option (Int × (List Formula))
 | [], b, a => some (b, a)
 | g :: d, b, a => ((vY g 2).bind fun i => (if i then (mR d (wi0 .i64 (b - 1)) a) else ((vY g 3).bind fun j => (if (!j) then ((lP 72 a ([g])).bind fun h => (mR d b h)) else (mR d b a)))))
def nz (rec : mA → Formula → Option (Formula × mA)) (q : Formula) : List Formula → (List Formula) → mA → Option (Formula × mA)
 | [], g, a => (if (decide (q.Op < 4)) then ((pZ a q.Op g).bind fun i => some (i.1, i.2)) else ((mR g q.K ([])).bind fun (d, b) => (if (decide (d ≤ 0)) then some ((⟨2, 0, (⟨zS, zS⟩ : jl), []⟩ : Formula), a) else (if (decide (d > (b.length : Int))) then some ((⟨3, 0, (⟨zS, zS⟩ : jl), []⟩ : Formula), a) else (if (d == (b.length : Int)) then ((pZ a 2 b).bind fun j => some (j.1, j.2)) else (if (d == 1) then ((pZ a 3 b).bind fun k => some (k.1, k.2)) else ((wh b false).bind fun n => some ((⟨4, d, (⟨zS, zS⟩ : jl), n⟩ : Formula), a))))))))
 | p :: l, g, a => ((rec a p).bind fun h => ((lP 72 g ([h.1])).bind fun m => (nz rec q l m h.2)))
def uG (rec : mA → Formula → Option (Formula × mA)) (a0 : mA) (a : Formula) : Option (Formula × mA) :=
 (if (a.Op == 1) then some (a, a0) else nz rec a a.Kids ([]) a0)
def oA : Nat → mA → Formula → Option (Formula × mA)
 | 0 => fun _ _ => none
 | n + 1 => uG (oA n)
def zU (a0 : Formula) : Option (Formula × Int) :=
 ((qC a0).bind fun g => (if (!g) then some ((⟨0, 0, (⟨zS, zS⟩ : jl), []⟩ : Formula), 11) else ((oA jP (⟨false⟩ : mA) a0).bind fun a => ((if a.2.RB then some true else ((qC a.1).bind fun b => some (!b))).bind fun d => (if d then some ((⟨0, 0, (⟨zS, zS⟩ : jl), []⟩ : Formula), 12) else some (a.1, 0))))))
def tD (n : jm) : List nf → Int → Int → Int → jl → (List Formula) → Option (Int × Int × Int × jl × (List Formula))
 | [], d, g, h, i, b => some (d, g, h, i, b)
 | k :: j, d, g, h, i, b => ((if (d == 0) then ((yV k.mo n).bind fun l => some l) else some false).bind fun m => (if m then ((zU (⟨2, 0, (⟨zS, zS⟩ : jl), [(⟨g, h, i, b⟩ : Formula), k.jw]⟩ : Formula)).bind fun a => (tD n j a.2 ((a.1).Op) ((a.1).K) ((a.1).jl) ((a.1).Kids))) else (tD n j d g h i b)))
def xc (l : jm) (a0 : jX) : List kd → Option (Formula × Int)
 | [] => some ((⟨0, 0, (⟨zS, zS⟩ : jl), []⟩ : Formula), 42)
 | b :: g => (if (!(kU b.Signed.jm l)) then (xc l a0 g) else ((zU b.jw).bind fun a => ((tD l a0.jS a.2 ((a.1).Op) ((a.1).K) ((a.1).jl) ((a.1).Kids)).bind fun (d, i, j, k, h) => (if (d != 0) then some ((⟨0, 0, (⟨zS, zS⟩ : jl), []⟩ : Formula), d) else some ((⟨i, j, k, h⟩ : Formula), 0)))))
def De (a0 : jX) (a : jm) : Option (Formula × Int) :=
 xc a a0 a0.jF
def yz (d : jl) : List jl → Option Bool
 | [] => some false
 | b :: a => (if (jJ b d) then some true else (yz d a))
def Bx (a0 : List jl) (a : jl) : Option Bool :=
 yz a a0
def rN (rec : Formula → (List jl) → Option Bool) (g : List jl) (a0 : Formula) : List Formula → Int → Option Bool
 | [], a => (if (a0.Op == 2) then some (a == (a0.Kids.length : Int)) else (if (a0.Op == 3) then some (decide (a > 0)) else some (decide (a ≥ a0.K))))
 | h :: b, a => ((rec h g).bind fun d => (if d then (rN rec g a0 b (wi0 .i64 (a + 1))) else (rN rec g a0 b a)))
def zL (rec : Formula → (List jl) → Option Bool) (a0 : Formula) (a : List jl) : Option Bool :=
 (if (a0.Op == 1) then ((Bx a a0.jl).bind fun b => some b) else rN rec a a0 a0.Kids 0)
def uo : Nat → Formula → (List jl) → Option Bool
 | 0 => fun _ _ => none
 | n + 1 => zL (uo n)
def rM (a0 : jX) (h : List jl) : List kd → (List jm) → Option (List jm)
 | [], a => ((sF a).bind fun k => some k)
 | g :: b, a => ((De a0 g.Signed.jm).bind fun d => ((if (d.2 == 0) then ((uo jP d.1 h).bind fun j => some j) else some false).bind fun l => (if l then ((lP 136 a ([g.Signed.jm])).bind fun i => (rM a0 h b i)) else (rM a0 h b a))))
def uE (a0 : jX) (b : List jm) (a2 : ByteArray) : Option (List jm) :=
 ((wg b).bind fun d => ((tC d a2).bind fun a => rM a0 a a0.jF ([])))
def vg (a0 l : jX) : Nat → (List jm) → (List jm) → Int → Option ((List jm) × (List jm) × Int)
 | 0, _, _, _ => none
 | n296 + 1, a, b, h => ((uE a0 b l.Name).bind fun d => ((uE l a a0.Name).bind fun g => ((pF d a).bind fun i => ((if i then ((pF g b).bind fun j => some j) else some false).bind fun k => (if k then some (a, b, h) else (vg a0 l n296 d g (wi0 .i64 (h + 1))))))))
def FG (a0 a : jX) : Option ((List jm) × (List jm) × Int) :=
 vg a0 a jP ([]) ([]) 0
def zr (a0 d : jX) : Option ((List jm) × (List (jl × (List (ByteArray × Bool)))) × (List jm) × (List (jl × (List jm))) × (List (ByteArray × (List jm))) × (List jE) × Int × ByteArray) :=
 ((sE a0 d).bind fun b => ((uM b.2.1).bind fun a => some (b.2.1, a.1, a.2.1, a.2.2.1, a.2.2.2.1, a.2.2.2.2.1, a.2.2.2.2.2, d.Name)))
def uQ (a0 : jl) (h : List (jl × (List (ByteArray × Bool)))) (a : List jm) (g : List (jl × (List jm))) (b : List (ByteArray × (List jm))) (d : List jE) (j : Int) (i : ByteArray) (k : List kd) (l : List nf) : Option Bool :=
 ((rh h a g b d j a0 i).bind fun m => some m)
def vC (a0 b : jX) (a2 : Formula) : Option Bool :=
 ((zr a0 b).bind fun a => ((sI a2 (fun (x : jl) => uQ x a.2.1 a.2.2.1 a.2.2.2.1 a.2.2.2.2.1 a.2.2.2.2.2.1 a.2.2.2.2.2.2.1 a.2.2.2.2.2.2.2 b.jF b.jS)).bind fun d => some d))
def Dj (a0 g : jX) : Option (List jl) :=
 ((FG a0 g).bind fun a => ((wg a.2.1).bind fun b => ((tC b g.Name).bind fun d => some d)))
def BQ (a0 h : jX) (a2 : Formula) : Option Bool :=
 ((qC a2).bind fun g => ((if g then ((Dj a0 h).bind fun a => ((uo jP a2 a).bind fun b => some b)) else some false).bind fun d => some d))
def rq (b : Int) : Option (List jm) :=
 (if (decide (b < 0)) then none else (((if (decide ((wi0 .i64 (b - (wi0 .i64 (0 - 0)))) > 0)) then ((GM 136 (⟨0, (⟨zS, zS⟩ : jl), zS, (⟨zS, zS⟩ : jl), (⟨zS, zS⟩ : jl), zS⟩ : jm) (wi0 .i64 (b - (wi0 .i64 (0 - 0))))).bind fun a => ((qR (decide (0 ≤ 0) && decide (0 ≤ (a.length : Int)))).bind fun _ => some (a.take (Int.toNat 0)))) else some ([])) : Option (List jm)).bind fun d => some d))
def nW  : List (List jm) → (List jm) → Option (List jm)
 | [], a => some a
 | g :: b, a => ((lP 136 a g).bind fun d => (nW b d))
def oa (a0 : List (List jm)) : List (List jm) → Int → Option (List jm)
 | [], a => ((rq a).bind fun h => ((nW a0 h).bind fun b => some b))
 | d :: g, a => (if (decide ((wi0 .i64 (a + (d.length : Int))) < 0)) then none else (oa a0 g (wi0 .i64 (a + (d.length : Int)))))
def qp (a0 : List (List jm)) : Option (List jm) :=
 oa a0 a0 0
structure IR where
 Name : ByteArray
 MW : Int
 Ty : Int
 TJ : Int
 Tl : Int
structure yo where
 A : List jm
 B : List jm
structure kf where
 og : List jm
 nB : List jm
def tj (a0 : jl) (n : List (jl × (List (ByteArray × Bool)))) (b : List jm) (h : List (jl × (List jm))) (d : List (ByteArray × (List jm))) (g : List jE) (u : Int) (r : ByteArray) (m : List kd) (q : List nf) (a : ByteArray) (i : List kd) (l : List nf) (p s : Int) (k : jl) (j : List Formula) (z : Int) (w : ky) (t x v : Int) (y : List Key) : Option Bool :=
 ((rh n b h d g u a0 a).bind fun E => some E)
def tb (a0 : mM) (d : List jm) : Option Bool :=
 ((uM d).bind fun a => ((sI a0.Formula (fun (x : jl) => tj x a.1 a.2.1 a.2.2.1 a.2.2.2.1 a.2.2.2.2.1 a.2.2.2.2.2 a0.jq.Name a0.jq.jF a0.jq.jS a0.Client.Name a0.Client.jF a0.Client.jS a0.Formula.Op a0.Formula.K a0.Formula.jl a0.Formula.Kids a0.vo a0.nG a0.pC a0.th a0.qN a0.Keys)).bind fun b => some b))
def nQ (a0 : mM) : Option (ByteArray × ByteArray × Int × Int × jl × Int × ky × Int × Int × Int) :=
 some (a0.jq.Name, a0.Client.Name, a0.Formula.Op, a0.Formula.K, a0.Formula.jl, a0.vo, a0.nG, a0.pC, a0.th, a0.qN)
def ui (a0 : jm) (a : List jm) : Option Bool :=
 ((pf a a0).bind fun b => some b)
def ux (a0 a : List jm) : Option (List jm) :=
 ((oR a0 (fun (x : jm) => ui x a)).bind fun b => some b)
def mB {q : Type} (b : ByteArray) (h : List kd) (i : List nf) (a : ByteArray) (d : List kd) (g : List nf) (f0 : q → (Int × kf) → Option (Bool × q)) : Nat → (List jm) → (List jm) → Int → q → Option q
 | 0, _, _, _, _ => none
 | I + 1, l, m, s, r => ((oQ (⟨b, h, i⟩ : jX) m a).bind fun v => ((ux v l).bind fun j => ((oQ (⟨a, d, g⟩ : jX) l b).bind fun w => ((ux w m).bind fun k => (((if ((wi0 .i64 ((j.length : Int) + (k.length : Int))) == 0) then some (j, k, true, r) else ((f0 r (s, (⟨j, k⟩ : kf))).bind fun n => some (j, k, (!n.1), n.2))) : Option ((List jm) × (List jm) × Bool × q)).bind fun (t, u, G, p) => (if G then some p else ((qp ([l, t])).bind fun x => ((tQ x).bind fun y => ((qp ([m, u])).bind fun z => ((tQ z).bind fun E => (mB b h i a d g f0 I y E (wi0 .i64 (s + 1)) p)))))))))))
def mG {n : Type} (f0 : n → (Int × kf) → Option (Bool × n)) (v : n) (i : ByteArray) (g : List kd) (h : List nf) (d : ByteArray) (a : List kd) (b : List nf) (l m : Int) (k : jl) (j : List Formula) (u : Int) (r : ky) (p s q : Int) (t : List Key) : Option n :=
 mB i g h d a b f0 jP ([]) ([]) 0 v
def nq (d : kf) (h : List ky) (a0 : mM) (g : List jm) : Nat → Int → ky → Option (((List ky) × ky × (List jm)) ⊕ (Bool × (List ky)))
 | 0, _, _ => none
 | i + 1, a, b => (if (decide (a < 2)) then (if (a == 0) then (if (a == 0) then (nq d h a0 g i (wi0 .i64 (a + 1)) (⟨(wi0 .i64 (b.og + (d.og.length : Int))), b.nB⟩ : ky)) else (if (a == 1) then (nq d h a0 g i (wi0 .i64 (a + 1)) (⟨(wi0 .i64 (b.og + (d.nB.length : Int))), b.nB⟩ : ky)) else none)) else (if (a == 1) then (if (a == 0) then (nq d h a0 g i (wi0 .i64 (a + 1)) (⟨b.og, (wi0 .i64 (b.nB + (d.og.length : Int)))⟩ : ky)) else (if (a == 1) then (nq d h a0 g i (wi0 .i64 (a + 1)) (⟨b.og, (wi0 .i64 (b.nB + (d.nB.length : Int)))⟩ : ky)) else none)) else none)) else ((lP 16 h ([b])).bind fun j => ((tb a0 g).bind fun k => (if k then some (Sum.inr (true, j)) else some (Sum.inl (j, b, g))))))
def pR (a0 : mM) (i : Int) (a : kf) (b : List ky) (h : ky) (d : List jm) : Option (((List ky) × ky × (List jm)) ⊕ (Bool × (List ky))) :=
 ((lP 136 d a.nB).bind fun g => nq a b a0 g jP 0 h)
def qE (a0 : mM) : Option ((List ky) × Bool) :=
 ((tb a0 ([])).bind fun i => (if i then some ([], true) else ((nQ a0).bind fun a => ((mG (wT (fun (s : ((List ky) × ky × (List jm))) (x : (Int × kf)) => pR a0 x.1 x.2 s.1 s.2.1 s.2.2)) (Sum.inl (([]), (⟨0, 0⟩ : ky), ([]))) a.1 a0.jq.jF a0.jq.jS a.2.1 a0.Client.jF a0.Client.jS a.2.2.1 a.2.2.2.1 a.2.2.2.2.1 a0.Formula.Kids a.2.2.2.2.2.1 a.2.2.2.2.2.2.1 a.2.2.2.2.2.2.2.1 a.2.2.2.2.2.2.2.2.1 a.2.2.2.2.2.2.2.2.2 a0.Keys).bind fun g => match g with | .inl (b, k, j) => some (b, false) | .inr (h, d) => some (d, h)))))
def oB (a0 : mM) : Option (Int × Bool) :=
 ((qE a0).bind fun a => (if (!a.2) then some (0, false) else some ((a.1.length : Int), true)))
def oS (j : Int) (a2 : jm) (g : Int) (a : kf) : Option (Unit ⊕ (Bool × Int)) :=
 ((if (decide (j ≥ 0)) then some (decide (j < 2)) else some false).bind fun h => ((if h then (if (j == 0) then ((pf a.og a2).bind fun b => some b) else (if (j == 1) then ((pf a.nB a2).bind fun d => some d) else none)) else some false).bind fun i => (if i then some (Sum.inr (true, g)) else some (Sum.inl ()))))
def vj (a0 : mM) (h : Int) (a2 : jm) : Option (Int × Bool) :=
 ((nQ a0).bind fun a => ((mG (wT (fun (s : Unit) (x : (Int × kf)) => oS h a2 x.1 x.2)) (Sum.inl ()) a.1 a0.jq.jF a0.jq.jS a.2.1 a0.Client.jF a0.Client.jS a.2.2.1 a.2.2.2.1 a.2.2.2.2.1 a0.Formula.Kids a.2.2.2.2.2.1 a.2.2.2.2.2.2.1 a.2.2.2.2.2.2.2.1 a.2.2.2.2.2.2.2.2.1 a.2.2.2.2.2.2.2.2.2 a0.Keys).bind fun b => match b with | .inl () => some (0, false) | .inr (d, g) => some (g, d)))
def xf (a0 : mM) : Option ((List ky) × Bool) :=
 ((qE a0).bind fun a => some (a.1, a.2))
def pW (a0 : Int) (b : kf) (a : Int) : Option (Bool × Int) :=
 some (true, (wi0 .i64 (a + 1)))
def tG  : Option Bool :=
 ((oB (⟨(⟨(⟨#[111, 119, 110]⟩ : ByteArray), [], []⟩ : jX), (⟨(⟨#[99, 108, 105]⟩ : ByteArray), [], []⟩ : jX), (⟨2, 0, (⟨zS, zS⟩ : jl), []⟩ : Formula), 0, (⟨0, 0⟩ : ky), 0, 0, 0, []⟩ : mM)).bind fun y => ((Eh 1 0 8).bind fun b => ((oB (⟨(⟨(⟨#[111, 119, 110]⟩ : ByteArray), [], []⟩ : jX), (⟨(⟨#[99, 108, 105]⟩ : ByteArray), [(⟨(⟨(⟨1, (⟨(⟨#[120]⟩ : ByteArray), (⟨#[121]⟩ : ByteArray)⟩ : jl), (⟨#[99, 108, 105]⟩ : ByteArray), (⟨zS, zS⟩ : jl), (⟨zS, zS⟩ : jl), zS⟩ : jm), b⟩ : Signed), (⟨2, 0, (⟨zS, zS⟩ : jl), []⟩ : Formula)⟩ : kd)], []⟩ : jX), (⟨1, 0, (⟨(⟨#[120]⟩ : ByteArray), (⟨#[121]⟩ : ByteArray)⟩ : jl), []⟩ : Formula), 0, (⟨0, 0⟩ : ky), 0, 0, 0, []⟩ : mM)).bind fun h => ((vj (⟨(⟨(⟨#[111, 119, 110]⟩ : ByteArray), [], []⟩ : jX), (⟨(⟨#[99, 108, 105]⟩ : ByteArray), [(⟨(⟨(⟨1, (⟨(⟨#[120]⟩ : ByteArray), (⟨#[121]⟩ : ByteArray)⟩ : jl), (⟨#[99, 108, 105]⟩ : ByteArray), (⟨zS, zS⟩ : jl), (⟨zS, zS⟩ : jl), zS⟩ : jm), b⟩ : Signed), (⟨2, 0, (⟨zS, zS⟩ : jl), []⟩ : Formula)⟩ : kd)], []⟩ : jX), (⟨1, 0, (⟨(⟨#[120]⟩ : ByteArray), (⟨#[121]⟩ : ByteArray)⟩ : jl), []⟩ : Formula), 0, (⟨0, 0⟩ : ky), 0, 0, 0, []⟩ : mM) 1 (⟨1, (⟨(⟨#[120]⟩ : ByteArray), (⟨#[121]⟩ : ByteArray)⟩ : jl), (⟨#[99, 108, 105]⟩ : ByteArray), (⟨zS, zS⟩ : jl), (⟨zS, zS⟩ : jl), zS⟩ : jm)).bind fun i => ((vj (⟨(⟨(⟨#[111, 119, 110]⟩ : ByteArray), [], []⟩ : jX), (⟨(⟨#[99, 108, 105]⟩ : ByteArray), [(⟨(⟨(⟨1, (⟨(⟨#[120]⟩ : ByteArray), (⟨#[121]⟩ : ByteArray)⟩ : jl), (⟨#[99, 108, 105]⟩ : ByteArray), (⟨zS, zS⟩ : jl), (⟨zS, zS⟩ : jl), zS⟩ : jm), b⟩ : Signed), (⟨2, 0, (⟨zS, zS⟩ : jl), []⟩ : Formula)⟩ : kd)], []⟩ : jX), (⟨1, 0, (⟨(⟨#[120]⟩ : ByteArray), (⟨#[121]⟩ : ByteArray)⟩ : jl), []⟩ : Formula), 0, (⟨0, 0⟩ : ky), 0, 0, 0, []⟩ : mM) 0 (⟨1, (⟨(⟨#[120]⟩ : ByteArray), (⟨#[121]⟩ : ByteArray)⟩ : jl), (⟨#[99, 108, 105]⟩ : ByteArray), (⟨zS, zS⟩ : jl), (⟨zS, zS⟩ : jl), zS⟩ : jm)).bind fun w => ((xf (⟨(⟨(⟨#[111, 119, 110]⟩ : ByteArray), [], []⟩ : jX), (⟨(⟨#[99, 108, 105]⟩ : ByteArray), [(⟨(⟨(⟨1, (⟨(⟨#[120]⟩ : ByteArray), (⟨#[121]⟩ : ByteArray)⟩ : jl), (⟨#[99, 108, 105]⟩ : ByteArray), (⟨zS, zS⟩ : jl), (⟨zS, zS⟩ : jl), zS⟩ : jm), b⟩ : Signed), (⟨2, 0, (⟨zS, zS⟩ : jl), []⟩ : Formula)⟩ : kd)], []⟩ : jX), (⟨1, 0, (⟨(⟨#[120]⟩ : ByteArray), (⟨#[121]⟩ : ByteArray)⟩ : jl), []⟩ : Formula), 0, (⟨0, 0⟩ : ky), 0, 0, 0, []⟩ : mM)).bind fun d => ((nQ (⟨(⟨(⟨#[111, 119, 110]⟩ : ByteArray), [], []⟩ : jX), (⟨(⟨#[99, 108, 105]⟩ : ByteArray), [(⟨(⟨(⟨1, (⟨(⟨#[120]⟩ : ByteArray), (⟨#[121]⟩ : ByteArray)⟩ : jl), (⟨#[99, 108, 105]⟩ : ByteArray), (⟨zS, zS⟩ : jl), (⟨zS, zS⟩ : jl), zS⟩ : jm), b⟩ : Signed), (⟨2, 0, (⟨zS, zS⟩ : jl), []⟩ : Formula)⟩ : kd)], []⟩ : jX), (⟨1, 0, (⟨(⟨#[120]⟩ : ByteArray), (⟨#[121]⟩ : ByteArray)⟩ : jl), []⟩ : Formula), 0, (⟨0, 0⟩ : ky), 0, 0, 0, []⟩ : mM)).bind fun a => ((mG (fun (s : Int) (x : (Int × kf)) => pW x.1 x.2 s) 0 a.1 ([]) ([]) a.2.1 ([(⟨(⟨(⟨1, (⟨(⟨#[120]⟩ : ByteArray), (⟨#[121]⟩ : ByteArray)⟩ : jl), (⟨#[99, 108, 105]⟩ : ByteArray), (⟨zS, zS⟩ : jl), (⟨zS, zS⟩ : jl), zS⟩ : jm), b⟩ : Signed), (⟨2, 0, (⟨zS, zS⟩ : jl), []⟩ : Formula)⟩ : kd)]) ([]) a.2.2.1 a.2.2.2.1 a.2.2.2.2.1 ([]) a.2.2.2.2.2.1 a.2.2.2.2.2.2.1 a.2.2.2.2.2.2.2.1 a.2.2.2.2.2.2.2.2.1 a.2.2.2.2.2.2.2.2.2 ([])).bind fun g => ((if (y.1 == 0) then some y.2 else some false).bind fun j => ((if j then some (h.1 == 1) else some false).bind fun k => ((if k then some h.2 else some false).bind fun l => ((if l then some (i.1 == 0) else some false).bind fun m => ((if m then some i.2 else some false).bind fun n => ((if n then some (!w.2) else some false).bind fun p => ((if p then some d.2 else some false).bind fun q => ((if q then some ((d.1.length : Int) == 1) else some false).bind fun r => ((if r then ((kV d.1 0).bind fun v => some (FT v (⟨0, 1⟩ : ky))) else some false).bind fun t => ((if t then some (g == 1) else some false).bind fun u => some u))))))))))))))))))
def qV (i : List jm) : List jm → (List jm) → Option (List jm)
 | [], a => some a
 | h :: b, a => ((yV i h).bind fun g => (if (!g) then ((lP 136 a ([h])).bind fun d => (qV i b d)) else (qV i b a)))
def wQ (a0 a : List jm) : Option (List jm) :=
 qV a a0 ([])
def sf (a0 : mM) : Nat → (List jm) → (List jm) → (List yo) → Option (List yo)
 | 0, _, _, _ => none
 | n + 1, a, b, h => ((((uE a0.jq b a0.Client.Name).bind fun p => ((wQ p a).bind fun q => ((uE a0.Client a a0.jq.Name).bind fun r => ((wQ r b).bind fun s => some (q, s, ([]), ([])))))) : Option ((List jm) × (List jm) × (List jm) × (List jm))).bind fun (d, g, u, v) => ((if ((d.length : Int) == 0) then some ((g.length : Int) == 0) else some false).bind fun t => (if t then some h else ((lP 48 h ([(⟨d, g⟩ : yo)])).bind fun i => ((lP 136 ([]) a).bind fun j => ((lP 136 j d).bind fun k => ((lP 136 ([]) b).bind fun l => ((lP 136 l g).bind fun m => (sf a0 n k m i)))))))))
def Cc (a0 : mM) : Option (List yo) :=
 sf a0 jP ([]) ([]) ([])
def nX (a0 : Int) (g : kf) (a b : List jm) (c1 : Int) : Option (Bool × (List jm) × (List jm) × Int) :=
 ((lP 136 a g.og).bind fun h => ((lP 136 b g.nB).bind fun d => some (true, h, d, (wi0 .i64 (c1 + 1)))))
def tK (a0 : mM) : Option Bool :=
 (tG.bind fun p => (if (!p) then some false else ((xg a0).bind fun q => (if (decide (q > 6000)) then some true else ((sE a0.jq a0.Client).bind fun b => ((nQ a0).bind fun a => ((mG (fun (s : ((List jm) × (List jm) × Int)) (x : (Int × kf)) => nX x.1 x.2 s.1 s.2.1 s.2.2) (([]), ([]), 0) a.1 a0.jq.jF a0.jq.jS a.2.1 a0.Client.jF a0.Client.jS a.2.2.1 a.2.2.2.1 a.2.2.2.2.1 a0.Formula.Kids a.2.2.2.2.2.1 a.2.2.2.2.2.2.1 a.2.2.2.2.2.2.2.1 a.2.2.2.2.2.2.2.2.1 a.2.2.2.2.2.2.2.2.2 a0.Keys).bind fun d => ((oB a0).bind fun r => ((if (d.2.2 == b.2.2) then some ((d.1.length : Int) == (b.1.length : Int)) else some false).bind fun t => ((if t then some ((d.2.1.length : Int) == (b.2.1.length : Int)) else some false).bind fun u => ((if u then ((sF d.1).bind fun j => ((pF j b.1).bind fun k => some k)) else some false).bind fun l => ((if l then ((sF d.2.1).bind fun h => ((pF h b.2.1).bind fun i => some i)) else some false).bind fun m => ((if m then ((vC a0.jq a0.Client a0.Formula).bind fun g => some (r.2 == g)) else some false).bind fun n => some n)))))))))))))
end
end Go.Proofs.YtjjjihkifgdhgaaGreat
