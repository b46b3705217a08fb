/- a part of a proof of LeastStays -/
import Derived.Test.YtmlncblocfcmiaaGreatRtVs
import Derived.Shelf.SlSortCmp.NoneTotal
import Derived.Shelf.SortM.Plain
import Derived.Shelf.SortM.SortNone
import Derived.Shelf.SlIter.Sorted
import Derived.Shelf.SlIter.Nil
import Derived.Test.YtmlncblocfcmiaaGreatProg
import Derived.KernelRfl
set_option linter.all false
namespace Go.Proofs.YtmlncblocfcmiaaGreat
open Go.RowKit
section
variable {dd : Bool}
def BW {α : Type} (R : rr α) : lG → List Value → α → Prop := fun μ vs x => ∃ ys, vs = [.agg ys.toArray] ∧ R μ ys x
def wj {α β : Type} (R : rr α) (S : rr β) : lG → List Value → α × β → Prop := fun μ vs x => ∃ ys zs, vs = [.agg ys.toArray, .agg zs.toArray] ∧ R μ ys x.1 ∧ S μ zs x.2
theorem BW.mk {α : Type} {R : rr α} {k : Nat} {μ μ' : lG} {ys : List Value} {x : α} (a : Deep R k) (h : R μ ys x) (b : lz μ μ') : BW R μ' [.agg ys.toArray] x := ⟨ys, rfl, a.mono _ _ _ _ b h⟩
theorem wj.mk {α β : Type} {R : rr α} {S : rr β} {k m : Nat} {μ μ' : lG} {ys zs : List Value} {x : α} {y : β} (d : Deep R k) (g : Deep S m) (h : R μ ys x) (b : S μ zs y) (a : lz μ μ') : wj R S μ' [.agg ys.toArray, .agg zs.toArray] (x, y) :=
 ⟨ys, zs, rfl, d.mono _ _ _ _ a h, g.mono _ _ _ _ a b⟩
def ye {α β : Type} (P : Program) (fv : Value) (μ : lG) (a : lG → List Value → α → Prop) (b : β → Value) (pm : α → Option β) : Prop :=
 ∃ f first caps, fv = .func (.func f) first caps ∧ (∀ args w, (callFunc f args).run P w = .ok (.enter f args) w) ∧ ∀ W x vs r, lz μ (hp W) → a (hp W) vs x → pm x = some r → mi false P f (first.toList ++ (vs ++ caps.toList)) W (b r)
theorem ye.form {α β : Type} {P : Program} {fv : Value} {μ : lG} {d : lG → List Value → α → Prop} {g : β → Value} {pm : α → Option β} (h : ye P fv μ d g pm) : ∃ f a b, fv = .func f a b := let ⟨f, a, b, h, _⟩ := h; ⟨_, a, b, h⟩
end
section
variable {P : Program} {W : World} {E : Nat → Value} {d : Option Nat} {ty : TypeId} {pos : String} {af : Array Edge} {g : Option (Nat × Bool)} {F : Nat → Prop} {w : World} {μ μ0 : lG} {L : List (Nat × Obj)}
theorem ye.mono {α β : Type} {fv : Value} {a : lG → List Value → α → Prop} {b : β → Value} {pm : α → Option β} (h : ye P fv μ a b pm) (i : lz μ μ0) : ye P fv μ0 a b pm := by
 obtain ⟨f, first, caps, h1, d, g⟩ := h
 exact ⟨f, first, caps, h1, d, fun W x vs r h => g W x vs r (i.trans h)⟩
theorem zl {α β : Type} {K : Value → World → Prop} {fv : Value} {j : lG → List Value → α → Prop} {k : β → Value} {pm : α → Option β} {b : Operand} {ax : Array Operand} {ats : Array TypeId} (x : α) {vs : List Value} {r : β} (a : ST false F w W μ L) (s : ye P fv μ0 j k pm) (u : lz μ0 μ) (q : j (hp W) vs x) (t : kU E b = fv) (ha : ax.map (kU E) ++ (#[] : Array Value) = vs.toArray) (hm : pm x = some r) (h : ∀ W', ST false F w W' μ L → K (k r) W') : oe P E ⟨d, .call ⟨.value b, ax, ats⟩, ty, pos, af, g⟩ W K := by
 obtain ⟨f, first, caps, rfl, l, m⟩ := s
 have i : ax.map (kU E) = vs.toArray := by simpa using ha
 refine .inr (.inr ⟨f, (first.toList ++ (vs ++ caps.toList)).toArray, ?_, dV (m W x vs r (u.trans a.kV) q hm) (fun _ _ ⟨n, p⟩ => ⟨_, n, h _ (a.IW p)⟩)⟩)
 show (do let d ← resolve (kU E) ⟨.value b, ax, ats⟩ ty; invoke d.target d.args : Sem Next).run P W = _
 simp only [resolve, t, Deferred.ofValue, cH, dC, bQ, invoke, i, l]
 congr 2
 simp
end
section
variable {dd : Bool}
variable {β : Type} {Rl : rr β} {k : Nat} {μ : lG} {v : Value} {l : List β} {e : TypeId} {B : List (Nat × Obj)}
variable {F : Nat → Prop} {w W : World} {L : List (Nat × Obj)}
variable {P : Program} {E : Nat → Value} {d : Option Nat} {ty : TypeId} {pos : String} {af : Array Edge} {g : Option (Nat × Bool)}
theorem Jq {α : Type} {enc : α → List Value} (hk : ∀ x, (enc x).length = k) (d : 0 < k) (g : ∀ x y, enc x = enc y → x = y) : ∀ {l m : List α}, (l.map enc).flatten = (m.map enc).flatten → l = m
 | [], [], _ => rfl
 | [], b :: m, h => by
  have := bI List.length h
  simp only [gD, dF, bU, bP, bR, aD, hk] at this
  omega
 | a :: l, [], h => by
  have := bI List.length h
  simp only [gD, dF, bU, bP, bR, aD, hk] at this
  omega
 | a :: l, b :: m, h => by
  simp only [bP, bR] at h
  obtain ⟨h1, i⟩ := List.append_inj h (by rw [hk, hk])
  rw [g _ _ h1, Jq hk d g i]
theorem TD (x y : xF k) (h : vX x = vX y) : x = y := Subtype.ext h
theorem lD.pre {v1 : Value} {cl a : List (xF k)} (g : 0 < k) (h : lD e vX k v cl B) (h1 : lD e vX k v1 a B) (d : a.length ≤ cl.length) : a = cl.take a.length := by
 rcases h with ⟨rfl, rfl, rfl⟩ | ⟨r, cap, b, rfl, rfl, s, t, u, p⟩
 ·simp at d; simp [d]
 ·rcases h1 with ⟨_, _, h⟩ | ⟨g1, i, j, rfl, l, q, a2, a3, a4⟩
  ·cases h
  ·cases l
   refine Jq zb g TD ?_
   rw [← a4]
   have hle : a.length * k ≤ cl.length * k := cE _ d
   have : b.toList.take (a.length * k) = (b.toList.take (cl.length * k)).take (a.length * k) := by rw [iy, dA hle]
   rw [this, p]
   have m : (cl.map vX).flatten = ((cl.take a.length).map vX).flatten ++ ((cl.drop a.length).map vX).flatten := by rw [← cT, ← cI, fU]
   have n : ((cl.take a.length).map vX).flatten.length = a.length * k := by rw [pJ zb, cQ, dA d]
   rw [m, ← n, je]
theorem pR.replicate {α β : Type} {Q : α → β → Prop} {a : α} {b : β} (h : Q a b) : ∀ n, pR Q (List.replicate n a) (List.replicate n b)
 | 0 => .nil
 | n + 1 => .cons h (pR.replicate h n)
theorem pR.TC {α β : Type} {Q : α → β → Prop} {l : List α} {m : List β} (h : pR Q l m) {a : α} {b : β} (d : Q a b) (i : Nat) : pR Q (pa l i a) (pa m i b) := by
 unfold pa
 rw [h.length]
 exact (h.take i).append (pR.replicate d _)
theorem DP {t e' : TypeId} {x ih : Operand} {u : IntKind} {i : Int} (r : P.underlying t = some (.slice e')) (he : ∀ w, (sizeOf e').run P w = .ok k w) (s : kU E x = v) (p : kU E ih = .int u i) (h : lN e Rl k μ v l B) (j : 0 ≤ i) (q : i ≤ l.length) :
  ∃ a, lN e Rl k μ a (l.take i.toNat) B ∧ ∀ W, nc P E ⟨d, .slice t x none (some ih) none, ty, pos, af, g⟩ W a W := by
 obtain ⟨cl, h1, b⟩ := h
 obtain ⟨a, m, n⟩ := EJ (d := d) (ty := ty) (pos := pos) (af := af) (g := g) r he s p h1 zb j (by rw [b.length]; exact q)
 exact ⟨a, ⟨_, m, b.take _⟩, n⟩
theorem zk {t e' : TypeId} {x a : Operand} {r : IntKind} {i : Int} (p : P.underlying t = some (.slice e')) (he : ∀ w, (sizeOf e').run P w = .ok k w) (q : kU E x = v) (m : kU E a = .int r i) (h : lN e Rl k μ v l B) (b : 0 ≤ i) (n : i ≤ l.length) :
  ∃ u, xa k v i.toNat u ∧ ∀ W, nc P E ⟨d, .slice t x (some a) none none, ty, pos, af, g⟩ W u W := by
 obtain ⟨cl, h1, j⟩ := h
 exact Ai p he q m h1 b (by rw [j.length]; exact n)
theorem L4 {t e' : TypeId} {x : Operand} {u : Value} {i : Nat} (b : P.underlying t = some (.slice e')) (j : kU E x = u) (hu : xa k v i u) (h : lN e Rl k μ v l B) : nc P E ⟨d, .call ⟨.builtin .len, #[x], #[t]⟩, ty, pos, af, g⟩ W (.int .i64 ((l.length - i : Nat) : Int)) W := by
 obtain ⟨cl, h1, a⟩ := h
 rw [← a.length]
 exact H7 b j hu h1
theorem BM {t e' : TypeId} {x j : Operand} {G : IntKind} {i : Int} {x0 : β} {u : Value} {o : Nat} {A : List Value → Prop} (y : ∀ {ys}, Rl μ ys x0 → A ys) (D : P.underlying t = some (.slice e')) (he : ∀ w, (sizeOf e').run P w = .ok k w) (F : kU E x = u) (r : kU E j = .int G i) (h : lN e Rl k μ v l B) (hu : xa k v o u) (m : 0 ≤ i) (s : (l.drop o)[i.toNat]? = some x0) :
  ∃ p, (∃ ys, A ys ∧ At (CR B) p ys ∧ Bq B k p (o + i.toNat)) ∧ ∀ W, nc P E ⟨d, .indexAddr t x j, ty, pos, af, g⟩ W p W := by
 obtain ⟨cl, h1, n⟩ := h
 obtain ⟨c, b, z⟩ := (n.drop o).get s
 obtain ⟨p, a, q⟩ := Ao (d := d) (ty := ty) (pos := pos) (af := af) (g := g) D he F r h1 hu m b
 exact ⟨p, ⟨c.1, y z, a.at h1 zb (BR b), a⟩, q⟩
theorem Bt {K : Value → World → Prop} {z : β} {zs : List Value} {Y : List (Nat × Obj)} {t e' : TypeId} {x : Operand} {u j : Value} {i : Nat} (p : Deep Rl k) (b : ST dd F w W μ (B ++ Y)) (h : lN e Rl k μ v l B) (a : Rl μ zs z) (s : P.underlying t = some (.slice e')) (A : ∀ w, (zeroValue e').run P w = .ok j w) (hu : xa k v i u) (r : j.cells = zs.toArray) (y : kU E x = u) (q : ∀ W' R', ST dd F w W' μ (R' ++ Y) → lN e Rl k μ v (pa l i z) R' → K (.tuple #[]) W') : oe P E ⟨d, .call ⟨.builtin .clear, #[x], #[t]⟩, ty, pos, af, g⟩ W K := by
 obtain ⟨cl, h1, n⟩ := h
 exact CV (p.cell a) b h1 zb Mg s A hu r y (fun W' R' m a2 => q W' R' m ⟨_, a2, n.TC a i⟩)
theorem pR.TI {α β : Type} {Q : α → β → Prop} {l : List α} {m : List β} (h : pR Q l m) (i j : Nat) : pR Q (xZ l i j) (xZ m i j) := by
 unfold xZ
 rw [h.length]
 exact ((h.take i).append (h.drop j)).append (h.drop _)
theorem Iz {K : Value → World → Prop} {Y : List (Nat × Obj)} {t : TypeId} {x y : Operand} {i j : Nat} {v1 u : Value} {D : TypeInfo} (p : ST dd F w W μ (B ++ Y)) (h : lN e Rl k μ v l B) (h1 : lN e Rl k μ v1 (l.take i) B) (m : 0 < k) (O : P.underlying t = some (.slice e)) (L : P.info? e = some D) (r : D.size = k) (q : i ≤ j) (M : j ≤ l.length) (hu : xa k v j u) (Q : kU E x = v1) (R : kU E y = u) (J : ∀ W' n R', ST dd F w W' μ (R' ++ Y) → lN e Rl k μ v (xZ l i j) R' → lN e Rl k μ n (l.take i ++ l.drop j) R' → K n W') : oe P E ⟨d, .call ⟨.builtin .append, #[x, y], #[t, t]⟩, ty, pos, af, g⟩ W K := by
 obtain ⟨cl, a, b⟩ := h
 obtain ⟨c1, A, I⟩ := h1
 have s : c1.length = i := by rw [I.length, cQ]; omega
 have z := lD.pre m a A (by rw [s, b.length]; omega)
 rw [s] at z
 subst z
 exact JC p a A zb m Mg O L r q (by rw [b.length]; exact M) hu Q R (fun W' n R' G a2 a3 => J W' n R' G ⟨_, a2, b.TI i j⟩ ⟨_, a3, (b.take i).append (b.drop j)⟩)
theorem L5 {p : List β} {q : Value} {t : TypeId} {x n ih : Operand} {F m : IntKind} {a b : Int} (A : P.underlying t = some (.slice e)) (he : ∀ w, (sizeOf e).run P w = .ok k w) (j : 0 < k) (r : lN e Rl k μ v l B) (h1 : lN e Rl k μ q p B) (D : kU E x = q) (z : kU E n = .int F a) (y : kU E ih = .int m b) (ha : 0 ≤ a) (i : a ≤ b) (s : b = (l.length : Int)) (h : a = (p.length : Int)) : ∃ u, xa k v a.toNat u ∧ ∀ W, nc P E ⟨d, .slice t x (some n) (some ih) none, ty, pos, af, g⟩ W u W := by
 obtain ⟨cl, G, I⟩ := r
 obtain ⟨c1, J, L⟩ := h1
 exact Nw A he j G J D z y ha i (by rw [I.length]; exact s) (by rw [L.length]; exact h)
theorem NC {t : TypeId} {x p ih q : Operand} {F j n : IntKind} {a b m : Int} (A : P.underlying t = some (.slice e)) (he : ∀ w, (sizeOf e).run P w = .ok k w) (r : lN e Rl k μ v l B) (D : kU E x = v) (z : kU E p = .int F a) (y : kU E ih = .int j b) (hm : kU E q = .int n m) (ha : 0 ≤ a) (h : a ≤ b) (s : b ≤ m) (i : m ≤ (l.length : Int)) : ∃ u, True ∧ ∀ W, nc P E ⟨d, .slice t x (some p) (some ih) (some q), ty, pos, af, g⟩ W u W := by
 obtain ⟨cl, G, I⟩ := r
 exact Oa A he G D z y hm ha h s (by rw [I.length]; exact i)
theorem lN.Of {b d : List β} {i : Value} {R2 : List (Nat × Obj)} (a : 0 < k) (j : lN e Rl k μ v l B) (h1 : lN e Rl k μ i d B) (m : lN e Rl k μ v b R2) (n : d.length ≤ b.length) : lN e Rl k μ i (b.take d.length) R2 := by
 obtain ⟨cl, p, s⟩ := j
 obtain ⟨c1, q, g⟩ := h1
 obtain ⟨c2, r, h⟩ := m
 refine ⟨_, lD.Of a zb p q r (by rw [g.length, h.length]; exact n), ?_⟩
 rw [g.length]
 exact h.take _
end
section
variable {P : Program} {W : World} {E : Nat → Value} {d : Option Nat} {ty : TypeId} {pos : String} {af : Array Edge} {g : Option (Nat × Bool)}
theorem N2 {i n : TypeId} {x y : Operand} {fv : Value} {s u : Array TypeId} {bb : Bool} (k : P.underlying i = some (.func s u bb)) (h : ∃ f a b, fv = .func f a b) (l : kU E x = fv) (m : kU E y = .nilFunc) :
  nc P E ⟨d, .binOp .neq i x y n, ty, pos, af, g⟩ W (.bool true) W := by
 obtain ⟨f, a, b, rfl⟩ := h
 show (do let r ← (do eqGuard .neq i x y (kU E x) (kU E y); binOp .neq i (kU E x) (kU E y)); pure (.value r) : Sem Next).run P W = _
 rw [l, m]
 have j := F0 9999 k f a b W
 simp [eqGuard, binOp, Op.equal, show Op.maxDepth = 9999 + 1 from rfl, j]
end
end Go.Proofs.YtmlncblocfcmiaaGreat
namespace Go.Proofs.YtmlncblocfcmiaaGreat
open Go.RowKit
theorem bS {α β : Type} {m : Option α} {f : α → Option β} {r : β} {G : Prop} (h : m.bind f = some r) (k : ∀ x, m = some x → f x = some r → G) : G :=
 let ⟨x, a, b⟩ := bind_some h
 k x a b
theorem sj {α : Type} {a b : α} (h : some a = some b) : a = b := jz h
theorem bC {α : Type} {b : Bool} {x y r : α} {G : Prop} (h : (if b = true then x else y) = r) (a : b = true → x = r → G) (d : b = false → y = r → G) : G := by
 rcases MM b with e | e
 ·exact a e (Mq e h)
 ·exact d e (Mu e h)
theorem cB {a b : Bool} (h : a = b) : Value.bool a = Value.bool b := bI Value.bool h
theorem nb {a b : Nat} (h : Nat.ble a b = true := by exact rfl) : a ≤ b := Nat.le_of_ble_eq_true h
def Ti : Nat → Nat → List Bool
 | 0, _ => []
 | n + 1, m => (m % 2 == 1) :: Ti n (m / 2)
def bm (n m : Nat) : Array Bool := (Ti n m).toArray
section
variable {P : Program} {n : Nat} {Q : qW} {E : Nat → Value} {W : World}
theorem CI {α : Type} {co : Operand} {b : Bool} {x y : Code} {A B r : α} (hm : (if b = true then A else B) = r) (a : kU E co = .bool b) (g : b = true → A = r → CW P n x Q E W) (d : b = false → B = r → CW P n y Q E W) : CW P n (.cond co x y) Q E W :=
 Mr a (fun e => g e (Mq e hm)) (fun e => d e (Mu e hm))
theorem CJ {d ρ : Type} {m : Option d} {k : d → Option ρ} {r : ρ} {x : Code} {K : (Nat → Value) → World → Prop} (hm : m.bind k = some r) (I : d → (Nat → Value) → World → Prop) (h1 : ∀ s, m = some s → CW P n x (qS (I s) Q) E W) (g : ∀ s E W, I s E W → k s = some r → K E W) : CW P n x (qS K Q) E W :=
 let ⟨s, a, b⟩ := bind_some hm
 NL (I s) (h1 s a) (fun E W h => g s E W h b)
theorem Tf {g ρ d : Type} {m : Option (d ⊕ g)} {k : d ⊕ g → Option ρ} {r : ρ} {x : Code} {K : (Nat → Value) → World → Prop} (hm : m.bind k = some r) (I : g → (Nat → Value) → World → Prop) (h1 : ∀ s, m = some s → k s = some r → CW P n x (qS (fun E W => ∃ t, s = .inr t ∧ I t E W) Q) E W) (i : ∀ s E W, I s E W → k (.inr s) = some r → K E W) : CW P n x (qS K Q) E W :=
 let ⟨s, a, b⟩ := bind_some hm
 NL (fun E W => ∃ t, s = .inr t ∧ I t E W) (h1 s a b) (fun E W ⟨t, e, h⟩ => i t E W h (by subst e; exact b))
theorem LJ {d ρ : Type} {m : Option d} {k : d → Option ρ} {r : ρ} {ops : Array Oper} {rest : List Oper} (hm : m.bind k = some r) (I : d → (Nat → Value) → World → Prop) (j : Nat) (g : ∀ s E W, I s E W → k s = some r → LW P n ops Q (rest.drop j) E W) (h1 : ∀ s, m = some s → (∀ E W, I s E W → LW P n ops Q (rest.drop j) E W) → LW P n ops Q rest E W) : LW P n ops Q rest E W :=
 let ⟨s, a, b⟩ := bind_some hm
 h1 s a (fun E W h => g s E W h b)
theorem PJ {d ρ : Type} {m : Option d} {k : d → Option ρ} {r : ρ} {ops : Array Oper} {S : Array Bool → World → Prop} {fuel : Nat} {listed : Array Bool} (hm : m.bind k = some r) (I : d → (Nat → Value) → World → Prop) (i : Array Bool) (g : Nat) (j : ∀ s E W, I s E W → k s = some r → PX P n ops Q S g i E W) (h1 : ∀ s, m = some s → (∀ E W, I s E W → PX P n ops Q S g i E W) → PX P n ops Q S fuel listed E W) : PX P n ops Q S fuel listed E W :=
 let ⟨s, a, b⟩ := bind_some hm
 h1 s a (fun E W h => j s E W h b)
end
section
variable {dd : Bool} {P : Program} {fn : Func} {E : Nat → Value} {W w : World} {μ : lG} {L : List (Nat × Obj)}
theorem rP {t : Tmp} {v : Value} (a : ST dd nl w W μ L) (b : fn.results = #[.tmp t] := by exact rfl) (d : E t = v := by exact rfl) : yG P fn (fun e W' => e = .returned v ∧ Ex dd w W') .ret E W := mS b d ⟨rfl, a.ex⟩
end
theorem ST.AN {dd : Bool} {F : Nat → Prop} {w W : World} {μ : lG} {x : Nat × Obj} {L : List (Nat × Obj)} (h : ST dd F w W μ (x :: L)) : ST dd F w W μ ([x] ++ L) := h
theorem ST.OJ {dd : Bool} {F : Nat → Prop} {w W : World} {μ : lG} {L : List (Nat × Obj)} (h : ST dd F w W μ L) : ST dd F w W μ ([] ++ L) := h
theorem aL {E : Nat → Value} {ax : Array Operand} {l : List Value} (h : ax.toList.map (kU E) = l) : ax.map (kU E) ++ (#[] : Array Value) = l.toArray := by subst h; apply Array.ext'; simp
section
variable {dd : Bool}
variable {P : Program} {E : Nat → Value} {W : World} {d : Option Nat} {ty : TypeId} {pos : String} {af : Array Edge} {g : Option (Nat × Bool)}
 {F : Nat → Prop} {w : World} {μ : lG} {L : List (Nat × Obj)}
variable {f : FuncId} {fv : Operand} {ax : Array Operand} {ats : Array TypeId} {args : List Value} {v : Value} {K : Value → World → Prop}
theorem Eg (a : ST dd F w W μ L) (he : ∀ args w, (callFunc f args).run P w = .ok (.enter f args) w) (b : mi dd P f args W v) (h : ∀ W', ST dd F w W' μ L → K v W') (i : kU E fv = .func (.func f) #[] #[] := by exact rfl) (ha : ax.toList.map (kU E) = args := by exact rfl) : oe P E ⟨d, .call ⟨.value fv, ax, ats⟩, ty, pos, af, g⟩ W K := Fq a i he (aL ha) b h
theorem zK {α : Type} {e : TypeId} {enc : α → List Value} {k : Nat} {l : List α} {Y : List (Nat × Obj)} (a : ST dd F w W μ Y) (he : ∀ args w, (callFunc f args).run P w = .ok (.enter f args) w) (b : pd dd P f args W e enc k l) (h : ∀ W' v μ' R, ST dd F w W' μ' (R ++ Y) → lz μ μ' → Lo F w μ μ' → lD e enc k v l R → K v W') (i : kU E fv = .func (.func f) #[] #[] := by exact rfl) (ha : ax.toList.map (kU E) = args := by exact rfl) : oe P E ⟨d, .call ⟨.value fv, ax, ats⟩, ty, pos, af, g⟩ W K := LI _ a i he (aL ha) b h
theorem Im {K' : Value → List (Nat × Obj) → World → Prop} {L0 L2 : List (Nat × Obj)} (i : ST dd F w W μ L) (j : L.Perm (L0 ++ L2)) (he : ∀ args w, (callFunc f args).run P w = .ok (.enter f args) w) (k : EV L0 W → (L0.map (·.1)).Nodup → lz μ (vq W L0) → (∀ b o, (b, o) ∈ L2 → vq W L0 b = some o) → mU dd P f args W L0 K') (h : ∀ W' v μ' L1, ST dd F w W' μ' (L1 ++ L2) → lz μ μ' → Lo F w μ μ' → (∀ b, W.heap.size ≤ b → ∀ o, vq W' L1 b = some o → μ' b = some o) → K' v L1 W' → K v W') (l : kU E fv = .func (.func f) #[] #[] := by exact rfl) (ha : ax.toList.map (kU E) = args := by exact rfl) : oe P E ⟨d, .call ⟨.value fv, ax, ats⟩, ty, pos, af, g⟩ W K :=
 Qk L0 L2 i j l he (aL ha) (fun a b c d => by have := k a b c d; simpa using this) h
theorem Li {K' : Value → List (Nat × Obj) → lG → Prop} {L0 L2 : List (Nat × Obj)} (i : ST dd F w W μ L) (j : L.Perm (L0 ++ L2)) (he : ∀ args w, (callFunc f args).run P w = .ok (.enter f args) w) (k : EV L0 W → (L0.map (·.1)).Nodup → lz μ (vq W L0) → (∀ b o, (b, o) ∈ L2 → vq W L0 b = some o) → mE dd P f args W μ L0 K') (h : ∀ W' v μ' L1, ST dd F w W' μ' (L1 ++ L2) → lz μ μ' → Lo F w μ μ' → K' v L1 μ' → K v W') (l : kU E fv = .func (.func f) #[] #[] := by exact rfl) (ha : ax.toList.map (kU E) = args := by exact rfl) : oe P E ⟨d, .call ⟨.value fv, ax, ats⟩, ty, pos, af, g⟩ W K :=
 Gr L0 L2 i j l he (aL ha) (fun a b c d => by have := k a b c d; simpa using this) h
end
section
variable {E : Nat → Value} {x1 x2 x3 x4 x5 x6 x7 x8 : Operand} {v1 v2 v3 v4 v5 v6 v7 v8 : Value}
theorem Tk (h1 : kU E x1 = v1) : [x1].map (kU E) = [v1] := by rw [← h1]; rfl
theorem Pv (h1 : kU E x1 = v1) (a : kU E x2 = v2) : [x1, x2].map (kU E) = [v1, v2] := by rw [← h1, ← a]; rfl
end
def Ih (P : Program) (n : Nat) (c : Code) (Q : qW) : Nat → (Nat → Value) → World → Prop
 | 0, _, _ => False
 | k + 1, E, W => CW P n c (qS (Ih P n c Q k) Q) E W
theorem Bl {P : Program} {n : Nat} {c : Code} {Q : qW} {E : Nat → Value} {W : World} {k : Nat} (h : CW P n c (qS (Ih P n c Q k) Q) E W) : Ih P n c Q (k + 1) E W := h
theorem Ih.rounds {P : Program} {n : Nat} {c : Code} {Q : qW} : ∀ (k : Nat) {E : Nat → Value} {W : World}, Ih P n c Q k E W → ∀ a, Ag n a E → Code.rounds P c (lift n Q) k a W
 | 0, _, _, h, _, _ => h.elim
 | k + 1, E, W, h, a, ha => wp_mono (h a ha) (fun e g j d => by
  cases e with
  | normal => obtain ⟨E', b, i⟩ := d; exact Ih.rounds k i g b
  | _ => exact d)
theorem Ij {P : Program} {n : Nat} {c : Code} {Q : qW} {E : Nat → Value} {W : World} (k : Nat) (h : Ih P n c Q k E W) : CW P n (.loop c) Q E W := fun a ha => wp_loop_rounds k (Ih.rounds k h a ha)
theorem rj {P : Program} {E : Nat → Value} {W : World} {d : Option Nat} {ty : TypeId} {pos : String} {af : Array Edge} {g : Option (Nat × Bool)} {t e m k b o : Nat} {x a : Operand} {r : IntKind} {i : Int} (p : P.underlying t = some (.array m e)) (he : ∀ w, (sizeOf e).run P w = .ok k w) (q : kU E x = .pointer (some ⟨b, o, none⟩)) (l : kU E a = .int r i) (h : 0 ≤ i) (n : i < (m : Int)) : nc P E ⟨d, .indexAddr t x a, ty, pos, af, g⟩ W (.pointer (some ⟨b, o + i.toNat * k, none⟩)) W := by
 show (do pure (.value (← Instr.indexAt t (kU E x) (kU E a))) : Sem Next).run P W = _
 rw [q, l]
 have j : 0 ≤ i ∧ i < (m : Int) := ⟨h, n⟩
 simp [Instr.indexAt, asIntOf, aP p, he W, j, Instr.sureAddr, dH]
theorem SY {i j : Int} {E : Nat → Value} {x : Operand} {k : IntKind} (h : (i == j) = true) (a : kU E x = .int k i) : kU E x = .int k j := by rw [a, eq_of_beq h]
end Go.Proofs.YtmlncblocfcmiaaGreat
namespace Go.Proofs.YtmlncblocfcmiaaGreat
open Go.RowKit
def TX (R : List (Nat × Obj)) (k : Nat) (p : Value) (i a : Nat) : Prop := ∃ g o, R = [(g, o)] ∧ p = .pointer (some ⟨g, i * k + a, none⟩)
theorem Bq.f {R : List (Nat × Obj)} {k : Nat} {p : Value} {i : Nat} (h : Bq R k p i) : TX R k p i 0 := h
section
variable {P : Program} {E : Nat → Value} {W : World} {d : Option Nat} {ty : TypeId} {pos : String} {af : Array Edge} {g : Option (Nat × Bool)}
 {dd : Bool} {F : Nat → Prop} {w : World} {μ : lG} {L : List (Nat × Obj)} {α : Type} {e' : TypeId} {enc : α → List Value} {k : Nat} {v : Value} {l : List α} {R : List (Nat × Obj)}
theorem lD.put (h : lD e' enc k v l R) (hk : ∀ x, (enc x).length = k) {p : Value} {i : Nat} (hp : Bq R k p i) {x0 : α} (t : l[i]? = some x0) (x1 : α) :
  ∃ g a, R = [(g, .cells a e' (0, 0))] ∧ p = .pointer (some ⟨g, i * k, none⟩) ∧ i * k + k ≤ a.size ∧ (∀ j y, (enc x0)[j]? = some y → a[i * k + j]? = some y) ∧
   lD e' enc k v (l.set i x1) [(g, .cells (a.toList.take (i * k) ++ enc x1 ++ a.toList.drop (i * k + k)).toArray e' (0, 0))] := by
 have n : i < l.length := (bH.1 t).1
 obtain ⟨r, a, cap, rfl, rfl, s, z, m, A, rfl, D⟩ := Bu h hk hp t
 have hle : i * k + k ≤ cap * k := by
  have : (i + 1) * k ≤ cap * k := cE _ (by omega)
  rwa [cP, kw] at this
 have b : i * k + k ≤ l.length * k := by
  have : (i + 1) * k ≤ l.length * k := cE _ (by omega)
  rwa [cP, kw] at this
 have hlen : l.length * k ≤ cap * k := cE _ s
 refine ⟨r, a, rfl, rfl, by rw [m]; exact hle, D, .inr ⟨r, cap, _, by simp, rfl, by simpa using s, z, ?_, ?_⟩⟩
 ·show ((a.toList.take (i * k) ++ (enc x1) ++ a.toList.drop (i * k + k)).toArray).size = _
  have d : a.toList.length = cap * k := by simpa using m
  rw [dQ, aD, aD, cQ, eK, hk, d, dA (by omega)]; omega
 ·rw [jy, FX hk l i x1 n, ← A]
  have u : (a.toList.take (l.length * k)).take (i * k) = a.toList.take (i * k) := by rw [iy]; congr 1; omega
  have w : (a.toList.take (l.length * k)).drop (i * k + k) = (a.toList.drop (i * k + k)).take (l.length * k - (i * k + k)) := by rw [ja]
  rw [u, w]
  show List.take (l.length * k) (a.toList.take (i * k) ++ enc x1 ++ a.toList.drop (i * k + k)) = _
  have d : a.toList.length = cap * k := by simpa using m
  have q : (a.toList.take (i * k) ++ enc x1).length = i * k + k := by rw [aD, cQ, hk, d, dA (by omega)]
  rw [fO, dI (by rw [q]; exact b), q]
end
end Go.Proofs.YtmlncblocfcmiaaGreat
namespace Go.Proofs.YtmlncblocfcmiaaGreat
open Go.RowKit
theorem oc {v : Value} (h : v.cells.toList.all Value.oneCell' = true := by exact rfl) : ∀ u ∈ v.cells.toList, u.oneCell' = true := gI.1 h
theorem dc {p : Prop} [Decidable p] (h : p := by decide) : p := h
theorem kr {p : Prop} (h : p := by kernel_rfl) : p := h
theorem br {α : Sort _} {a b : α} (h : a = b := by rfl) : a = b := h
abbrev LO := List (Nat × Obj)
abbrev Ob (c : Array Value) (t : TypeId) : Obj := .cells c t (0, 0)
abbrev Ol (c : List Value) (t : TypeId) : Obj := .cells c.toArray t (0, 0)
theorem nZ {P : Program} {t e : TypeId} {m k : Nat} {z : Value} {a : Array (Nat × Value)} {cs : Array Value} (j : P.underlying t = some (.slice e)) (i : ∀ w, (sizeOf e).run P w = .ok k w) (n : ∀ w, (zeroValue e).run P w = .ok z w) (hm : m * k ≤ 16777216 := by decide) (g : a.toList = (a.toList.map (·.2)).zipIdx.map (fun p => (p.2, p.1)) := by exact rfl) (l : (a.toList.map (·.2)).all (fun v => v.cells.size == k) = true := by exact rfl) (d : (a.toList.map (·.2)).length = m := by exact rfl) (b : ((a.toList.map (·.2)).flatMap (fun v => v.cells.toList)).toArray = cs := by exact rfl) (W : World) :
  (Instr.buildSlice t m a).run P W = .ok (.slice (some ⟨W.heap.size, 0, none⟩) m m) (W.alloc (.cells cs e (0, 0))) :=
 Bp _ j i n hm g (fun v h => eq_of_beq (gI.1 l v h)) d b W
section
variable {dd : Bool} {P : Program} {fn : Func} {E : Nat → Value} {W w : World} {μ : lG} {L L0 : List (Nat × Obj)}
theorem rQ {α : Type} {f : α → Value} {a r : α} {t : Tmp} (hm : some a = some r) (b : ST dd nl w W μ L) (d : fn.results = #[.tmp t] := by exact rfl) (g : E t = f a := by exact rfl) : yG P fn (fun e W' => e = .returned (f r) ∧ Ex dd w W') .ret E W := by
 obtain rfl := sj hm; exact mS d g ⟨rfl, b.ex⟩
theorem cG (n : Nat) {f : FuncId} {c : Code} {args : List Value} {v : Value} (a : P.funcs[f]? = some fn) (b : fn.body = some c) (h : ST dd nl w w (hp w) [] → CW P n c (yG P fn (fun e i => e = .returned v ∧ Ex dd w i)) (DE args) w) (g : fn.ntmps = n := by exact rfl) (d : args.length ≤ n := by exact nb) : mi dd P f args w v := Aj a b g d (h (ST.start w))
theorem BG {K : Value → List (Nat × Obj) → World → Prop} (n : Nat) {f : FuncId} {c : Code} {args : List Value} (a : P.funcs[f]? = some fn) (d : fn.body = some c) (h : ST dd nl w w (hp w) [] → CW P n c (yG P fn (fun e b => ∃ v L1, e = .returned v ∧ uM dd [] L1 w b ∧ K v L1 b)) (DE args) w) (i : fn.ntmps = n := by exact rfl) (g : args.length ≤ n := by exact nb) : mU dd P f args w [] K := Aj a d i g (h (ST.start w))
theorem By {K : Value → List (Nat × Obj) → World → Prop} (d : oW μ L0 w) (n : Nat) {f : FuncId} {c : Code} {args : List Value} (a : P.funcs[f]? = some fn) (g : fn.body = some c) (h : ST dd (keys L0) w w μ L0 → CW P n c (yG P fn (fun e b => ∃ v L1, e = .returned v ∧ uM dd L0 L1 w b ∧ K v L1 b)) (DE args) w) (j : fn.ntmps = n := by exact rfl) (i : args.length ≤ n := by exact nb) : mU dd P f args w L0 K := Aj a g j i (h (ST.NV d))
theorem vd {K : Value → List (Nat × Obj) → lG → Prop} (d : oW μ L0 w) (n : Nat) {f : FuncId} {c : Code} {args : List Value} (a : P.funcs[f]? = some fn) (g : fn.body = some c) (h : ST dd (keys L0) w w μ L0 → CW P n c (yG P fn (fun e b => ∃ v L1 μ1, e = .returned v ∧ uM dd L0 L1 w b ∧ lz μ μ1 ∧ Lo (keys L0) w μ μ1 ∧ lz μ1 (vq b L1) ∧ K v L1 μ1)) (DE args) w) (j : fn.ntmps = n := by exact rfl) (i : args.length ≤ n := by exact nb) : mE dd P f args w μ L0 K := Aj a g j i (h (ST.NV d))
end
section
variable {dd : Bool}
variable {P : Program} {E : Nat → Value} {W : World} {d : Option Nat} {ty : TypeId} {pos : String} {af : Array Edge} {g : Option (Nat × Bool)}
 {F : Nat → Prop} {w : World} {μ : lG} {L : List (Nat × Obj)}
variable {f : FuncId} {fv : Operand} {ax : Array Operand} {ats : Array TypeId} {args : List Value} {v : Value} {K : Value → World → Prop}
theorem eM {K' : Value → List (Nat × Obj) → World → Prop} {L0 L2 : List (Nat × Obj)} (i : ST dd F w W μ L) (j : L.Perm (L0 ++ L2)) (he : ∀ args w, (callFunc f args).run P w = .ok (.enter f args) w) (k : oW (vq W L0) L0 W → lz μ (vq W L0) → mU dd P f args W L0 K') (h : ∀ W' v μ' L1, ST dd F w W' μ' (L1 ++ L2) → lz μ μ' → Lo F w μ μ' → (∀ b, W.heap.size ≤ b → ∀ o, vq W' L1 b = some o → μ' b = some o) → K' v L1 W' → K v W') (l : kU E fv = .func (.func f) #[] #[] := by exact rfl) (ha : ax.toList.map (kU E) = args := by exact rfl) : oe P E ⟨d, .call ⟨.value fv, ax, ats⟩, ty, pos, af, g⟩ W K :=
 Im i j he (fun a b c _ => k ⟨a, b, lz.refl _⟩ c) h l ha
theorem eD {K' : Value → List (Nat × Obj) → lG → Prop} {L0 L2 : List (Nat × Obj)} (i : ST dd F w W μ L) (j : L.Perm (L0 ++ L2)) (he : ∀ args w, (callFunc f args).run P w = .ok (.enter f args) w) (k : oW μ L0 W → mE dd P f args W μ L0 K') (h : ∀ W' v μ' L1, ST dd F w W' μ' (L1 ++ L2) → lz μ μ' → Lo F w μ μ' → K' v L1 μ' → K v W') (l : kU E fv = .func (.func f) #[] #[] := by exact rfl) (ha : ax.toList.map (kU E) = args := by exact rfl) : oe P E ⟨d, .call ⟨.value fv, ax, ats⟩, ty, pos, af, g⟩ W K :=
 Li i j he (fun a b c _ => k ⟨a, b, c⟩) h l ha
end
def Nu (op : BinOp) : Value → Value → Option Value
 | .int k a, .int k' b => if k = k' then IQ k op a b else none
 | _, _ => none
def Ru (i : Nat) : Value → Option Value
 | .tuple vs => vs[i]?
 | _ => none
def IZ : Value → Bool
 | .pointer (some ⟨_, _, none⟩) => true
 | _ => false
def Rj (o : Nat) : Value → Value
 | .pointer (some ⟨b, k, none⟩) => .pointer (some ⟨b, k + o, none⟩)
 | v => v
theorem Ig {v : Value} (h : IZ v = true) : ∃ b k, v = .pointer (some ⟨b, k, none⟩) := by
 unfold IZ at h; split at h
 ·exact ⟨_, _, rfl⟩
 ·cases h
section
variable {P : Program} {n : Nat} {Q : qW} {E : Nat → Value} {W : World} {ops : Array Oper} {rest : List Oper}
 {d j t : Nat} {want b : Bool} {v : Value} {ins : Go.Op} {ty : TypeId} {pos : String} {af : Array Edge} {A : Value → Prop} {x y : Operand}
theorem Wm (h : LW P n ops Q rest (pP E d (kU E x)) W) (a : d < n := by decide) : LW P n ops Q (⟨some d, .move x, ty, pos, af, none⟩ :: rest) E W := V (kZ rfl) h a
theorem Wa (h : LW P n ops Q rest (pP E d (kU E x)) W) (a : d < n := by decide) : LW P n ops Q (⟨some d, .assign x, ty, pos, af, none⟩ :: rest) E W := V (oM rfl) h a
theorem Wh (b : kU E x = v) (h : LW P n ops Q rest (pP E d v) W) (a : d < n := by decide) : LW P n ops Q (⟨some d, .move x, ty, pos, af, none⟩ :: rest) E W := V (kZ b) h a
theorem Wg (b : kU E x = v) (h : LW P n ops Q rest (pP E d v) W) (a : d < n := by decide) : LW P n ops Q (⟨some d, .assign x, ty, pos, af, none⟩ :: rest) E W := V (oM b) h a
theorem Wx {i : Nat} (a : Ru i (kU E x) = some v) (h : LW P n ops Q rest (pP E d v) W) (b : d < n := by decide) : LW P n ops Q (⟨some d, .extract x i, ty, pos, af, none⟩ :: rest) E W := by
 unfold Ru at a; split at a
 ·rename_i vs e; exact V (E3 e a) h b
 ·cases a
theorem Wi {op : BinOp} {p m : TypeId} (g : Nu op (kU E x) (kU E y) = some v) (h : LW P n ops Q rest (pP E d v) W) (l : d < n := by decide) : LW P n ops Q (⟨some d, .binOp op p x y m, ty, pos, af, none⟩ :: rest) E W := by
 unfold Nu at g; split at g
 ·rename_i k a k' b i j
  split at g
  ·rename_i e; subst e; exact V (lW i j g) h l
  ·cases g
 ·cases g
theorem Wf {t : TypeId} {f off : Nat} (a : na P t f off) (h : LW P n ops Q rest (pP E d (Rj off (kU E x))) W) (hp : IZ (kU E x) = true := by exact rfl) (g : d < n := by decide) : LW P n ops Q (⟨some d, .fieldAddr t x f, ty, pos, af, none⟩ :: rest) E W := by
 obtain ⟨b, k, e⟩ := Ig hp
 refine V (lg a e) ?_ g
 rw [e] at h; exact h
theorem Wn (h : LW P n ops Q rest (pP E d (kU E x)) W) (hp : IZ (kU E x) = true := by exact rfl) (a : d < n := by decide) : LW P n ops Q (⟨some d, .nilCheck x, ty, pos, af, none⟩ :: rest) E W := by
 obtain ⟨b, k, e⟩ := Ig hp
 refine V (nu e) ?_ a
 rw [e] at h; exact h
theorem un (h : b = !want) (k : LW P n ops Q rest (pP E d undef) W) (g : (ops[j]?).bind (·.dst) = some t := by exact rfl) (a : E t = .bool b := by exact rfl) (l : t < n := by decide) (i : d < n := by decide) :
  LW P n ops Q (⟨some d, ins, ty, pos, af, some (j, want)⟩ :: rest) E W := Vn g (by rw [a, h]) k l i
theorem ug (h : b = want) (l : nc P E ⟨some d, ins, ty, pos, af, some (j, want)⟩ W v W) (k : LW P n ops Q rest (pP E d v) W) (g : (ops[j]?).bind (·.dst) = some t := by exact rfl) (a : E t = .bool b := by exact rfl) (m : t < n := by decide) (i : d < n := by decide) :
  LW P n ops Q (⟨some d, ins, ty, pos, af, some (j, want)⟩ :: rest) E W := Vg g (by rw [a, h]) l k m i
theorem zG (h : b = want) (k : oe P E ⟨some d, ins, ty, pos, af, some (j, want)⟩ W fun v W' => LW P n ops Q rest (pP E d v) W') (g : (ops[j]?).bind (·.dst) = some t := by exact rfl) (a : E t = .bool b := by exact rfl) (l : t < n := by decide) (i : d < n := by decide) :
  LW P n ops Q (⟨some d, ins, ty, pos, af, some (j, want)⟩ :: rest) E W := NR g (by rw [a, h]) k l i
section
variable {dd : Bool} {F : Nat → Prop} {w : World} {μ : lG} {L : List (Nat × Obj)} {T : TypeId} {a off : Nat} {cs : Array Value} {fr : Nat × Nat}
theorem VA {t : TypeId} (b : ST dd F w W μ L) (i : (a, Obj.cells cs T fr) ∈ L) (ys : List Value) (g : ∀ w, (isAgg t).run P w = .ok true w) (j : ∀ w, (sizeOf t).run P w = .ok ys.length w) (h : LW P n ops Q rest (pP E d (.agg ys.toArray)) W) (l : kU E x = .pointer (some ⟨a, off, none⟩) := by exact rfl) (m : (cs.toList.drop off).take ys.length = ys := by exact rfl) (k : d < n := by decide) : LW P n ops Q (⟨some d, .load t x, ty, pos, af, none⟩ :: rest) E W := V (kQ l (kX b.has i ys m g j)) h k
theorem VB {t : TypeId} (b : ST dd F w W μ L) (i : (a, Obj.cells cs T fr) ∈ L) (k : kU E x = .pointer (some ⟨a, off, none⟩)) (l : cs[off]? = some v) (g : ∀ w, (isAgg t).run P w = .ok false w) (h : LW P n ops Q rest (pP E d v) W) (j : d < n := by decide) : LW P n ops Q (⟨some d, .load t x, ty, pos, af, none⟩ :: rest) E W := V (kQ k (lB b.has i l g)) h j
end
section
variable {K : (Nat → Value) → World → Prop} {Q' : qW} {c : Code} {id id2 : Nat} {l : List Oper} {z : Code}
theorem sg (h : LW P n l.toArray (qS (fun E W => CW P n c Q E W) Q) l E W) : CW P n (.seq (.region id l.toArray false) c) Q E W := lj (lh h)
theorem ln (h : K E W) : LW P n ops (qS K Q) [] E W := lY (li h)
theorem lr (h : LW P n l.toArray (qS (fun E W => CW P n c Q E W) Q) l E W) : LW P n ops (qS (fun E W => CW P n (.seq (.region id l.toArray false) c) Q E W) Q') [] E W := lY (li (lj (lh h)))
theorem lS (h : LW P n l.toArray (qS (fun E W => CW P n c (qS (fun E W => CW P n z Q E W) Q) E W) (qS (fun E W => CW P n z Q E W) Q)) l E W) : LW P n ops (qS (fun E W => CW P n (.seq (.seq (.region id l.toArray false) c) z) Q E W) Q') [] E W := lY (li (lj (lj (lh h))))
theorem bg (h : LW P n l.toArray (qS (fun E W => CW P n c (xj id2 Q) E W) (xj id2 Q)) l E W) : CW P n (.block id2 (.seq (.region id l.toArray false) c)) Q E W := mR (lj (lh h))
theorem kg (h : LW P n l.toArray (qS (fun E W => CW P n c Q E W) Q) l E W) : CW P n .skip (qS (fun E W => CW P n (.seq (.region id l.toArray false) c) Q E W) Q') E W := nt (li (lj (lh h)))
theorem kS (h : LW P n l.toArray (qS (fun E W => CW P n c (qS (fun E W => CW P n z Q E W) Q) E W) (qS (fun E W => CW P n z Q E W) Q)) l E W) : CW P n .skip (qS (fun E W => CW P n (.seq (.seq (.region id l.toArray false) c) z) Q E W) Q') E W := nt (li (lj (lj (lh h))))
theorem lt (h : Q .ret E W) : LW P n ops (qS (fun E W => CW P n .ret Q E W) Q') [] E W := lY (li (ma h))
theorem kn (h : K E W) : CW P n .skip (qS K Q) E W := nt (li h)
end
end
end Go.Proofs.YtmlncblocfcmiaaGreat
namespace Go.Proofs.YtmlncblocfcmiaaGreat
open Go.Sort Go.Proofs Go.Shelf
theorem Gi {g b : Nat} {o : Obj} : keys [(g, o)] b ↔ b = g := by
 constructor
 ·rintro ⟨a, h⟩
  simp at h
  exact h.1
 ·rintro rfl; exact ⟨o, by simp⟩
theorem CB (w : World) (g m : Nat) (f : Array Value → Array Value) (os : Array Obj) (b : Nat) (d : b < w.heap.size) :
  (Go.Sort.grow (mapBlock (Go.Sort.ahead w m) g f) os).heap[b]? = if g = b then w.heap[b]?.map (onCells f) else w.heap[b]? := by
 have a : b < (mapBlock (Go.Sort.ahead w m) g f).heap.size := by simp only [mapBlock, Go.Sort.ahead, Array.size_modify]; exact d
 rw [heap_grow_old _ _ a]
 simp only [mapBlock, Go.Sort.ahead, eS]
theorem Ki {w : World} {g m : Nat} {f : Array Value → Array Value} {os : Array Obj} {cs : Array Value} {T : TypeId} {fr : Nat × Nat} (d : w.heap[g]? = some (.cells cs T fr)) :
  uM true [(g, .cells cs T fr)] [(g, .cells (f cs) T fr)] w (Go.Sort.grow (mapBlock (Go.Sort.ahead w m) g f) os) := by
 have a : g < w.heap.size := (dP.1 d).1
 refine ⟨⟨rfl, rfl, rfl, ?_, ?_, fun b i j => ?_⟩, fun b o h => ?_, by simp⟩
 ·refine uJ.of ?_
  show w.drawn ≤ w.drawn + m
  omega
 ·show w.heap.size ≤ (w.heap.modify g (onCells f) ++ os).size
  simp
 ·rw [CB _ _ _ _ _ _ i, aY fun h => j (Gi.2 h.symm)]
 ·simp only [aK, dG, gM, Prod.mk.injEq] at h
  obtain ⟨rfl, rfl⟩ := h
  refine ⟨?_, .inr (Gi.2 rfl)⟩
  rw [CB _ _ _ _ _ _ a, aT rfl, d]
  rfl
theorem LX {w W : World} (h : Ex true w W) : ∃ q os, W = Go.Sort.grow (w.drewN q) os := by
 refine ⟨W.drawn - w.drawn, W.heap.extract w.heap.size W.heap.size, ?_⟩
 have g : W.heap = w.heap ++ W.heap.extract w.heap.size W.heap.size := by
  apply Array.ext_getElem?
  intro i
  rw [Array.getElem?_append]
  split
  ·rename_i j; exact h.nA i j
  ·rename_i j
   rw [Array.getElem?_extract]
   have l := h.size
   split
   ·rw [show w.heap.size + (i - w.heap.size) = i by omega]
   ·exact Array.getElem?_eq_none (by omega)
 obtain ⟨h1, m, n, p, r⟩ := W
 have a := h.os; have b := h.tape; have d := h.output; have k := h.drawn rfl
 simp only at a b d k g
 unfold Go.Sort.grow World.drewN
 simp only [World.mk.injEq]
 exact ⟨g, b, by omega, a, d⟩
theorem KR {α : Type} [Inhabited α] {enc : α → List Value} {k : Nat} (hk : ∀ x, (enc x).length = k) (l : List α) (j : Nat) (a : j < l.length * k) :
  (l.map enc).flatten[j]? = some ((flatK enc k l.toArray)[j]!) := by
 have g : 0 < k := by
  cases k with
  | zero => simp at a
  | succ n => omega
 have h1 : j / k < l.length := (jo g).2 a
 rw [get_flatK _ _ _ _ (by simpa using a)]
 have h : l.toArray[j / k]! = l[j / k] := by
  rw [getElem!_pos l.toArray (j / k) (by simpa using h1)]; simp
 rw [h]
 have b : j % k < (enc l[j / k]).length := by rw [hk]; exact Nat.mod_lt _ g
 have d := xu hk l (j / k) l[j / k] (cY h1) (j % k) ((enc l[j / k])[j % k]) (cY b)
 rw [Nat.div_add_mod' j k] at d
 rw [d, getElem!_pos (enc l[j / k]) (j % k) b]
theorem IC {α : Type} [Inhabited α] {enc : α → List Value} {k : Nat} (hk : ∀ x, (enc x).length = k) {w : World} {g : Nat} {cs : Array Value} {T : TypeId} (b : w.heap[g]? = some (.cells cs T (0, 0))) (l : List α)
  (h : cs.toList.take (l.length * k) = (l.map enc).flatten) : HoldsK enc k w g 0 l.toArray := by
 intro j d
 have a : j < l.length * k := by simpa using d
 have h1 := KR hk l j a
 rw [← h, gJ, aT a] at h1
 refine ⟨?_, ?_⟩
 ·simp only [World.cell?, b, eL]
  simpa using h1
 ·simp [World.frozen?, b]
theorem Kq {α : Type} [Inhabited α] {enc : α → List Value} {k : Nat} (hk : ∀ x, (enc x).length = k) {cs : Array Value} (l : List α) (b : l.length * k ≤ cs.size) :
  (putCells id 0 (flatK enc k l.toArray) cs).toList.take (l.length * k) = (l.map enc).flatten := by
 apply fJ
 intro j
 rw [gJ]
 split
 ·rename_i a
  rw [KR hk l j a]
  simp only [putCells, dM, Array.getElem?_mapIdx, size_flatK, dQ]
  rw [Array.getElem?_eq_getElem (by omega)]
  simp [a]
 ·rename_i a
  rw [gS (by rw [pJ hk]; omega)]
theorem IP (enc : Value → Value) (o : Nat) (d c : Array Value) : (putCells enc o d c).size = c.size := by simp [putCells]
section
variable {α : Type} {P : Program} {ρ : Ren}
theorem RG {l : List α} {cf : α × α → Option Int} (h : EM cf l) : SWO (ltOf fun (x y : {x // x ∈ l}) => (cf (x.1, y.1)).getD 0) ∧
  (∀ x y : {x // x ∈ l}, ltOf (fun (x y : {x // x ∈ l}) => (cf (x.1, y.1)).getD 0) x y = uX cf x.1 y.1) := by
 have e : ∀ x y : {x // x ∈ l}, ltOf (fun (x y : {x // x ∈ l}) => (cf (x.1, y.1)).getD 0) x y = uX cf x.1 y.1 := fun x y => by
  obtain ⟨c, g⟩ := h.is x.1 x.2 y.1 y.2
  simp [ltOf, uX, g]
 refine ⟨⟨fun x => ?_, fun x y z => ?_, fun x y z => ?_⟩, e⟩
 ·rw [e]; exact h.irrefl _ x.2
 ·rw [e, e, e]; exact h.trans _ x.2 _ y.2 _ z.2
 ·rw [e, e, e]
  intro h1 b
  cases a : uX cf x.1 z.1 with
  | false => rfl
  | true =>
   cases d : uX cf y.1 x.1 with
   | true =>
    have := h.trans _ y.2 _ x.2 _ z.2 d a
    rw [b] at this; cases this
   | false =>
    have := h.total _ x.2 _ y.2 h1 d
    rw [this, b] at a; cases a
theorem Kz (L : SlLaysF0.n6 P ρ) (k : Nat) (aE : ∀ w, (isAgg (ρ.t 24)).run P w = .ok true w) (zE : ∀ w, (Go.sizeOf (ρ.t 24)).run P w = .ok k w) {e : TypeId} (enc : α → List Value) (hk : ∀ x, (enc x).length = k) (h1 : ∀ x, ∀ u ∈ enc x, u.oneCell' = true) {v fv : Value} {l r : List α} {R : List (Nat × Obj)} {cf : α × α → Option Int} {w : World} {μ0 : lG} (hH : EV (R ++ []) w) (A : lz μ0 (vq w (R ++ []))) (U : lD e enc k v l R) (hc : Tc P fv μ0 (fun (x : α × α) => [(.agg (enc x.1).toArray), (.agg (enc x.2).toArray)]) (fun (r : Int) => (.int .i64 r)) cf) (hm : Ak cf l = some r) :
  mU true P (ρ.f 6) [v, fv] w (R ++ []) (fun u L1 _ => ∃ (S : List (Nat × Obj)), u = (.tuple #[]) ∧ L1 = (S ++ []) ∧ lD e enc k v r S) := by
 obtain ⟨ok, rfl⟩ := Hk hm
 rw [aQ] at hH A ⊢
 rcases fP l.length with h0 | i
 ·have hl : l = [] := aR h0
  subst hl
  have W : ur cf ([] : List α) = [] := by simp [ur]
  rw [W]
  obtain ⟨p, c, rfl⟩ : ∃ p c, v = .slice p 0 c := by
   rcases U with ⟨rfl, _, _⟩ | ⟨g, cap, j, rfl, _⟩
   ·exact ⟨_, _, rfl⟩
   ·exact ⟨_, _, rfl⟩
  refine dV (AnyF.slices_SortFunc_none L p c fv w) fun x w' ⟨hx, hw⟩ => ?_
  subst hx hw
  refine ⟨_, R, rfl, ⟨⟨rfl, rfl, rfl, uJ.of (aO _), aO _, fun _ _ _ => rfl⟩, fun b o h => ⟨hH b o h, .inr ⟨o, h⟩⟩, ?_⟩, R, rfl, (aQ R).symm, U⟩
  rcases U with ⟨_, _, rfl⟩ | ⟨g, cap, j, _, rfl, _⟩ <;> simp
 ·rcases U with ⟨_, rfl, _⟩ | ⟨g, cap, j, rfl, rfl, a6, a1, I, ab⟩
  ·simp at i
  have hg : w.heap[g]? = some (.cells j e (0, 0)) := hH g _ (by simp)
  have a7 : g < w.heap.size := (dP.1 hg).1
  haveI : Inhabited {x // x ∈ l} := ⟨⟨l[0], List.getElem_mem i⟩⟩
  obtain ⟨gg, caps, rfl, J, q⟩ := hc
  obtain ⟨hO, M⟩ := RG ok
  have D : l.attach.toArray.size = l.length := by simp
  have a8 : l.attach.map (fun x => enc x.1) = l.map enc := by
   rw [show (fun x : {x // x ∈ l} => enc x.1) = enc ∘ Subtype.val from rfl, ← fG, List.attach_map_subtype_val]
  have Y : HoldsK (fun x : {x // x ∈ l} => enc x.1) k w g 0 l.attach.toArray := IC (fun x => hk x.1) hg l.attach (by rw [a8, List.length_attach, ab])
  have G : CmpLays P gg caps (fun x : {x // x ∈ l} => enc x.1) k (fun x y => (cf (x.1, y.1)).getD 0) g 0 l.attach.toArray.size w := by
   intro m os dk ae x y
   obtain ⟨c, F⟩ := ok.is x.1 x.2 y.1 y.2
   have T : lz μ0 (hp (sortWorldK (fun x : {x // x ∈ l} => enc x.1) k w g 0 m dk os)) := fun b o hb => by
    have z := A b o hb
    unfold vq at z
    split at z
    ·cases z
    ·rename_i hn
     have Z : b < w.heap.size := (dP.1 z).1
     show (Go.Sort.grow (mapBlock (Go.Sort.ahead w m) g _) os).heap[b]? = _
     rw [CB _ _ _ _ _ _ Z, aY fun h => hn (Gi.2 h.symm)]
     exact z
   have h3 := q (sortWorldK (fun x : {x // x ∈ l} => enc x.1) k w g 0 m dk os) (x.1, y.1) c T F
   have ea : ([Value.agg (enc x.1).toArray, Value.agg (enc y.1).toArray] ++ caps.toList).toArray = #[Value.agg (enc x.1).toArray, Value.agg (enc y.1).toArray] ++ caps := by
    apply Array.ext'; simp
   rw [← ea]
   exact dV h3 fun u W' hu => ⟨by rw [hu.1]; show _ = Ending.returned (.int .i64 ((cf (x.1, y.1)).getD 0)); rw [F]; rfl, LX hu.2⟩
  have hT : ∀ x y : {x // x ∈ l}, ltOf (fun (x y : {x // x ∈ l}) => (cf (x.1, y.1)).getD 0) x y = false → ltOf (fun (x y : {x // x ∈ l}) => (cf (x.1, y.1)).getD 0) y x = false → x = y := fun x y a b => by
   rw [M] at a b
   exact Subtype.ext (ok.total _ x.2 _ y.2 a b)
  have d := AnyQ.slices_SortFunc_total L k aE zE (fun x : {x // x ∈ l} => enc x.1) (fun x => hk x.1) (fun x => h1 x.1) (fun x y => (cf (x.1, y.1)).getD 0) hO gg caps g 0 cap l.attach.toArray w J G Y a7 (by rw [D]; exact ok.short) hT
  rw [D] at d
  refine dV d fun u w' ⟨hu, n, os, hw⟩ => ?_
  subst hu
  generalize W : l.attach.toArray.toList.mergeSort (fun x y => !ltOf (fun (x y : {x // x ∈ l}) => (cf (x.1, y.1)).getD 0) y x) = s at hw
  have aa : s.map Subtype.val = ur cf l := by
   rw [← W, jN (s := fun x y => !uX cf y x) (fun a _ b _ => by rw [M])]
   simp [ur]
  have Q : s.length = l.length := by rw [← W, List.length_mergeSort]; simp
  have O : (ur cf l).length = l.length := by simp [ur, List.length_mergeSort]
  have E := Ki (w := w) (m := n) (f := putCells id 0 (flatK (fun x : {x // x ∈ l} => enc x.1) k s.toArray)) (os := os) hg
  have ad : w' = Go.Sort.grow (mapBlock (Go.Sort.ahead w n) g (putCells id 0 (flatK (fun x : {x // x ∈ l} => enc x.1) k s.toArray))) os := hw
  rw [← ad] at E
  refine ⟨_, _, rfl, E, _, rfl, (aQ _).symm, .inr ⟨g, cap, _, by rw [O], rfl, by omega, a1, by rw [IP, I], ?_⟩⟩
  rw [O, ← Q, Kq (fun x => hk x.1) s (by rw [Q, I]; exact cE k a6), ← aa, fG]
  rfl
end
end Go.Proofs.YtmlncblocfcmiaaGreat
namespace Go.Proofs.YtmlncblocfcmiaaGreat
open Go.Sort Go.Proofs Go.Shelf
theorem EQ (b : ByteArray) : b.toList = b.data.toList := by rw [gG]
theorem QR (l : List ByteArray) : (l.map DN).flatten = l.map Value.string := by
 induction l with
 | nil => rfl
 | cons x l ih => simp only [bP, bR, ih]; rfl
theorem Od (l : List ByteArray) : (vL l).map (fun b => b.data.toList) = (l.map (fun b => b.data.toList)).mergeSort (fun x y => decide (x ≤ y)) := by
 unfold vL
 refine jN fun a _ b _ => ?_
 unfold rq
 rw [bytesLess_eq, EQ, EQ]
 by_cases h : a.data.toList ≤ b.data.toList
 ·have d : ¬ b.data.toList < a.data.toList := List.not_lt.2 h
  simp [h, d]
 ·have d : b.data.toList < a.data.toList := by
   cases Decidable.em (b.data.toList < a.data.toList) with
   | inl g => exact g
   | inr g => exact absurd (List.not_lt.1 g) h
  simp [h, d]
end Go.Proofs.YtmlncblocfcmiaaGreat
namespace Go.Proofs.YtmlncblocfcmiaaGreat
open Go.WideElems Go.WideShapes Go.Sort Go.Proofs Go.Shelf
theorem Km {β : Type} {vf : β → Value} {P : Program} {kt : TypeId} (A : P.underlying kt = some .string) {l : List (ByteArray × β)} {es : Array MapEntry} {clock : Nat} (h : vA Value.string vf l es clock) (y : (l.map (·.1)).Nodup) (z : ∀ p ∈ l, p.1.size ≤ maxLen) (w : l.length ≤ maxLen) {W : World} {b : Nat} (u : W.heap[b]? = some (.map es clock)) : ∃ D : DataW Unit, W.ownsMap P kt (fun _ => some (.lit (.bool true), [])) b es.size D ∧ (strKeys D).Perm (l.map (fun p => p.1.data.toList)) ∧ Maps.size D = l.length := by
 have d := h.keys
 have n : ∀ x ∈ es.toList, ∃ s : ByteArray, x.key = .string s ∧ s.size ≤ maxLen := fun x j => by
  have h1 : x.key ∈ es.toList.map (·.key) := bB.2 ⟨x, j, rfl⟩
  rw [d] at h1
  obtain ⟨s, i, k⟩ := bB.1 h1
  obtain ⟨p, r, t⟩ := bB.1 i
  exact ⟨s, k.symm, by rw [← t]; exact z p r⟩
 have g : ∀ x ∈ es.toList, ∃ s : ByteArray, x.key = .string s ∧ Go.WideElems.rd (H := Unit) P kt (fun _ => some (.lit (.bool true), [])) x = some (.string s.data.toList, .lit (.bool true)) := fun x j => by
  obtain ⟨s, h1, i⟩ := n x j
  refine ⟨s, h1, ?_⟩
  simp [Go.WideElems.rd, keyOf, A, mapKey, h1, i]
 refine ⟨_, ⟨es, clock, u, ⟨by rw [h.length]; exact w, ⟨h.lt, ?_, ?_⟩, fun x j => ?_⟩, aO _, rfl⟩, ?_, ?_⟩
 ·have := h.born
  rw [List.Nodup, gV]
  exact this.imp (fun {a b} h => by omega)
 ·rw [d]
  rw [List.Nodup, gV]
  exact y.imp (fun {a b} m e => m (by injection e))
 ·obtain ⟨s, _, i⟩ := g x j
  exact ⟨_, i⟩
 ·have h1 := (sorted_perm (es.toList.map (Go.WideElems.rg (H := Unit) P kt (fun _ => some (.lit (.bool true), []))))).map (fun p => strOf p.1)
  refine List.Perm.trans h1 ?_
  have e : (es.toList.map (Go.WideElems.rg (H := Unit) P kt (fun _ => some (.lit (.bool true), [])))).map (fun p => strOf p.1) = l.map (fun p => p.1.data.toList) := by
   have q : (es.toList.map (Go.WideElems.rg (H := Unit) P kt (fun _ => some (.lit (.bool true), [])))).map (fun p => strOf p.1) = (es.toList.map (·.key)).map (fun v => match v with | .string s => s.data.toList | _ => []) := by
    rw [fG, fG]
    refine List.map_congr_left fun x j => ?_
    obtain ⟨s, i, k⟩ := g x j
    simp [Go.WideElems.rg, k, i, strOf]
   rw [q, d, fG, fG]
   rfl
  rw [e]
 ·have h1 := (sorted_perm (es.toList.map (Go.WideElems.rg (H := Unit) P kt (fun _ => some (.lit (.bool true), []))))).length_eq
  show (List.foldr DataW.insert [] _).length = _
  rw [h1, dE, ← h.length]
  simp
theorem IG {l : List ByteArray} {g : List (List UInt8)} (h : g.Perm (l.map fun b => b.data.toList)) : g.mergeSort (fun x y => decide (x ≤ y)) = (vL l).map (fun b => b.data.toList) := by
 rw [Od]
 have le : ∀ a b c : List UInt8, decide (a ≤ b) = true → decide (b ≤ c) = true → decide (a ≤ c) = true := fun a b c h1 d => by
  simp only [bK] at *
  exact List.le_trans h1 d
 have tot : ∀ a b : List UInt8, (decide (a ≤ b) || decide (b ≤ a)) = true := fun a b => by
  simp only [gN, bK]
  exact List.le_total a b
 refine List.Perm.eq_of_pairwise (le := fun a b => decide (a ≤ b) = true) (fun a b _ _ h1 d => List.le_antisymm (by simpa using h1) (by simpa using d)) (iX le tot _) (iX le tot _) ?_
 exact (jE _ _).trans (h.trans (jE _ _).symm)
section
variable {P : Program} {ρk ρt ρm : Ren}
theorem Kh (LK : SlLaysZ.n7 P ρk) (LT : SlLaysZ.n6 P ρt) (LM : SlLaysM.n6 P ρm) (h9 : ρt.f 9 = ρm.f 6) (hK : P.underlying (ρk.t 26) = some .string) (eg : ∀ args w, (callFunc (ρk.f 10) args).run P w = .ok (.enter (ρk.f 10) args) w) (es : ∀ args w, (callFunc (ρt.f 9) args).run P w = .ok (.enter (ρt.f 9) args) w) {β : Type} {vf : β → Value} {l : List (ByteArray × β)} {b : Nat} {mv : Value} {t : TypeId} {W : World} {r : List ByteArray} (z : W.heap[b]? = some (.cells #[mv] t (0, 0))) (hm : wY Value.string vf (hp W) mv l) (hk : GG l = some r) :
  pd false P (ρt.f 6) [.func (.func (ρk.f 10)) #[] #[.pointer (some ⟨b, 0, none⟩)]] W (ρt.t 26) DN 1 r := by
 unfold GG at hk
 split at hk
 case isFalse => cases hk
 rename_i hc
 obtain ⟨T, U, Y⟩ := hc
 cases hk
 have j : b < W.heap.size := (dP.1 z).1
 have d : W.cell? ⟨b, 0, none⟩ = some mv := by simp [World.cell?, z]
 have s : AnyZ.SortsIn P ρt Fence.wide 4 :=
  ⟨fun M off cap i W hH hblk u => callsIn_wide.2 (by rw [h9]; exact AnyM.slices_Sort_string LM M off cap i W hH hblk u), fun p cap W => callsIn_wide.2 (by rw [h9]; exact AnyM.slices_Sort_string_none LM p cap W)⟩
 have I : SeqGives Fence.wide 2 P (ρk.f 10) #[.pointer (some ⟨b, 0, none⟩)] encStr (fun i => i.Perm ((l.map (·.1)).map fun b => b.data.toList)) l.length W := by
  rcases hm with ⟨rfl, rfl⟩ | ⟨m, es, clock, rfl, a6, E⟩
  ·have := AnyZ.keys_gives_nil (ρ := ρk) { LK with } Fence.wide 2 trivial rfl b W j d
   intro l' J W' Q O R L
   refine CallsIn.mono (this l' J W' Q O R L) ?_
   rintro e w' ⟨hv, i, rfl, hj⟩
   exact ⟨hv, [], bM _, hj⟩
  ·obtain ⟨D, F, q, u⟩ := Km hK E T U (by unfold maxLen; omega) a6
   have := AnyZ.keys_gives (ρ := ρk) { LK with } Fence.wide 2 trivial rfl (by omega) b m es.size D W j d F
   intro l' J W' Q O R L
   refine CallsIn.mono (this l' J W' Q O (by rw [u]; exact R) L) ?_
   rintro e w' ⟨hv, i, hp, hj⟩
   refine ⟨hv, i, ?_, hj⟩
   rw [fG]
   exact hp.trans q
 have cS := AnyZ.sorted_in LT Fence.wide 5 trivial trivial trivial trivial rfl (by omega) s es (ρk.f 10) #[.pointer (some ⟨b, 0, none⟩)] trivial eg _ l.length (by unfold maxLen; omega) Y W I
 refine dV (callsIn_wide.1 cS) ?_
 rintro e w' ⟨v, i, rfl, hS, G, a8, a⟩
 have hs := IG hS
 have hlen : i.length = (vL (l.map (·.1))).length := by
  have := bI List.length hs
  simpa using this
 have n : (i.mergeSort (fun x y => decide (x ≤ y))).map encStr = ((vL (l.map (·.1))).map DN).flatten := by
  rw [hs, QR, fG]
  refine List.map_congr_left (fun x _ => ?_)
  simp only [Function.comp, encStr]
 rcases G.2 with ⟨rfl, L⟩ | ⟨g, cap, A, rfl, k, hg, aa, Z, a1, a7⟩
 ·have : vL (l.map (·.1)) = [] := aR (by omega)
  rw [this]
  exact ⟨_, [], rfl, uM.IV ⟨a.os, a.tape, a.output, fun h => (by cases h), a.size, fun b z => a.block b z⟩ (fun _ _ h => by cases h) (by simp), lD.nil _ _ _⟩
 ·refine ⟨_, [(g, .cells A (ρt.t 26) (0, 0))], rfl, uM.IV ⟨a.os, a.tape, a.output, fun h => (by cases h), a.size, fun b z => a.block b z⟩ (fun b o h => by simp at h; obtain ⟨rfl, rfl⟩ := h; exact ⟨hg, k⟩) (by simp), .inr ⟨g, cap, A, by rw [hlen], rfl, by omega, Z, a1, ?_⟩⟩
  rw [← hlen, a7, n]
end
end Go.Proofs.YtmlncblocfcmiaaGreat
namespace Go.Proofs.YtmlncblocfcmiaaGreat
def iG := @Tryz.underlying9
def iS := @Tryz.zeroValue9
def jr := @Tryz.underlying0
def jA := @Tryz.zeroValue0
def jH := @Tryz.sizeOf9
def jT := @Tryz.isAgg9
def jU := @Tryz.underlying82
def kh := @Tryz.underlying4
def ki := @Tryz.zeroValue82
def km := @Tryz.sizeOf0
def kv := @Tryz.zeroValue4
def ky := @Tryz.isAgg0
def NX : Go.Shelf.Ren := ⟨fun | 6 => 230 | 15 => 322 | 14 => 321 | 28 => 367 | 29 => 368 | 20 => 359 | 21 => 360 | 22 => 361 | 23 => 362 | 24 => 363 | 25 => 364 | 26 => 365 | 27 => 366 | 46 => 410 | 47 => 411 | 48 => 412 | 49 => 413 | 50 => 414 | 57 => 449 | n => n, fun | 22 => 22 | 24 => 53 | 25 => 194 | 3 => 3 | 39 => 353 | 0 => 0 | 53 => 389 | 55 => 309 | 4 => 4 | 46 => 383 | 45 => 382 | 50 => 39 | 5 => 5 | 9 => 9 | 66 => 419 | 70 => 423 | 76 => 446 | 77 => 274 | n => n, fun | n => n⟩
theorem QZ : Go.Proofs.SlLaysF0.n6 Tryz.prog NX := {
 mixed := by kernel_rfl,
 f6 := ⟨Tryz.f230.name, by decide, Tryz.func230.trans (bI some (by kernel_rfl))⟩,
 f14 := ⟨Tryz.f321.name, by decide, Tryz.func321.trans (bI some (by kernel_rfl))⟩,
 f15 := Tryz.func322.trans (bI some (by kernel_rfl)),
 f20 := ⟨Tryz.f359.name, by decide, Tryz.func359.trans (bI some (by kernel_rfl))⟩,
 f21 := ⟨Tryz.f360.name, by decide, Tryz.func360.trans (bI some (by kernel_rfl))⟩,
 f22 := ⟨Tryz.f361.name, by decide, Tryz.func361.trans (bI some (by kernel_rfl))⟩,
 f23 := ⟨Tryz.f362.name, by decide, Tryz.func362.trans (bI some (by kernel_rfl))⟩,
 f24 := ⟨Tryz.f363.name, by decide, Tryz.func363.trans (bI some (by kernel_rfl))⟩,
 f25 := ⟨Tryz.f364.name, by decide, Tryz.func364.trans (bI some (by kernel_rfl))⟩,
 f26 := ⟨Tryz.f365.name, by decide, Tryz.func365.trans (bI some (by kernel_rfl))⟩,
 f27 := ⟨Tryz.f366.name, by decide, Tryz.func366.trans (bI some (by kernel_rfl))⟩,
 f28 := Tryz.func367.trans (bI some (by kernel_rfl)),
 f29 := Tryz.func368.trans (bI some (by kernel_rfl)),
 f46 := ⟨Tryz.f410.name, by decide, Tryz.func410.trans (bI some (by kernel_rfl))⟩,
 f47 := Tryz.func411.trans (bI some (by kernel_rfl)),
 f48 := Tryz.func412.trans (bI some (by kernel_rfl)),
 f49 := ⟨Tryz.f413.name, by decide, Tryz.func413.trans (bI some (by kernel_rfl))⟩,
 f50 := ⟨Tryz.f414.name, by decide, Tryz.func414.trans (bI some (by kernel_rfl))⟩,
 f57 := ⟨Tryz.f449.name, by decide, Tryz.func449.trans (bI some (by kernel_rfl))⟩,
 t0 := jr,
 a0 := ky,
 z0 := km,
 v0 := jA,
 t3 := Tryz.underlying3,
 a3 := Tryz.isAgg3,
 z3 := Tryz.sizeOf3,
 v3 := Tryz.zeroValue3,
 t4 := kh,
 a4 := Tryz.isAgg4,
 z4 := Tryz.sizeOf4,
 v4 := kv,
 t5 := Tryz.underlying5,
 a5 := Tryz.isAgg5,
 z5 := Tryz.sizeOf5,
 v5 := Tryz.zeroValue5,
 t9 := iG,
 a9 := jT,
 z9 := jH,
 v9 := iS,
 t22 := Tryz.underlying22,
 a22 := Tryz.isAgg22,
 z22 := Tryz.sizeOf22,
 v22 := Tryz.zeroValue22,
 t25 := Tryz.underlying194,
 a25 := Tryz.isAgg194,
 z25 := Tryz.sizeOf194,
 v25 := Tryz.zeroValue194,
 t39 := Tryz.underlying353,
 a39 := Tryz.isAgg353,
 z39 := Tryz.sizeOf353,
 v39 := Tryz.zeroValue353,
 t45 := Tryz.underlying382,
 a45 := Tryz.isAgg382,
 z45 := Tryz.sizeOf382,
 v45 := Tryz.zeroValue382,
 t46 := Tryz.underlying383,
 a46 := Tryz.isAgg383,
 z46 := Tryz.sizeOf383,
 v46 := Tryz.zeroValue383,
 t50 := Tryz.underlying39,
 a50 := Tryz.isAgg39,
 z50 := Tryz.sizeOf39,
 v50 := Tryz.zeroValue39,
 t53 := Tryz.underlying389,
 a53 := Tryz.isAgg389,
 z53 := Tryz.sizeOf389,
 v53 := Tryz.zeroValue389,
 t55 := Tryz.underlying309,
 a55 := Tryz.isAgg309,
 z55 := Tryz.sizeOf309,
 v55 := Tryz.zeroValue309,
 t66 := Tryz.underlying419,
 a66 := Tryz.isAgg419,
 z66 := Tryz.sizeOf419,
 v66 := Tryz.zeroValue419,
 t70 := Tryz.underlying423,
 a70 := Tryz.isAgg423,
 z70 := Tryz.sizeOf423,
 v70 := Tryz.zeroValue423,
 t76 := Tryz.underlying446,
 a76 := Tryz.isAgg446,
 z76 := Tryz.sizeOf446,
 v76 := Tryz.zeroValue446,
 t77 := Tryz.underlying274,
 a77 := Tryz.isAgg274,
 z77 := Tryz.sizeOf274,
 v77 := Tryz.zeroValue274}
def QU : Go.Shelf.Ren := ⟨fun | 6 => 273 | 8 => 322 | 9 => 343 | 19 => 367 | 20 => 368 | 21 => 396 | 22 => 397 | 23 => 398 | 24 => 399 | 25 => 400 | 26 => 401 | 27 => 402 | 28 => 403 | 29 => 404 | 36 => 426 | 31 => 411 | 32 => 412 | 37 => 427 | 38 => 428 | 39 => 429 | 41 => 454 | n => n, fun | 27 => 82 | 29 => 9 | 3 => 3 | 32 => 353 | 26 => 82 | 0 => 0 | 44 => 389 | 46 => 309 | 4 => 4 | 36 => 383 | 35 => 382 | 41 => 39 | 5 => 5 | 9 => 9 | 53 => 419 | 57 => 423 | 63 => 446 | 64 => 274 | n => n, fun | n => n⟩
theorem Rr : Go.Proofs.SlLaysM.n6 Tryz.prog QU := {
 mixed := by kernel_rfl,
 f6 := ⟨Tryz.f273.name, by decide, Tryz.func273.trans (bI some (by kernel_rfl))⟩,
 f8 := Tryz.func322.trans (bI some (by kernel_rfl)),
 f9 := ⟨Tryz.f343.name, by decide, Tryz.func343.trans (bI some (by kernel_rfl))⟩,
 f19 := Tryz.func367.trans (bI some (by kernel_rfl)),
 f20 := Tryz.func368.trans (bI some (by kernel_rfl)),
 f21 := ⟨Tryz.f396.name, by decide, Tryz.func396.trans (bI some (by kernel_rfl))⟩,
 f22 := ⟨Tryz.f397.name, by decide, Tryz.func397.trans (bI some (by kernel_rfl))⟩,
 f23 := ⟨Tryz.f398.name, by decide, Tryz.func398.trans (bI some (by kernel_rfl))⟩,
 f24 := ⟨Tryz.f399.name, by decide, Tryz.func399.trans (bI some (by kernel_rfl))⟩,
 f25 := ⟨Tryz.f400.name, by decide, Tryz.func400.trans (bI some (by kernel_rfl))⟩,
 f26 := ⟨Tryz.f401.name, by decide, Tryz.func401.trans (bI some (by kernel_rfl))⟩,
 f27 := ⟨Tryz.f402.name, by decide, Tryz.func402.trans (bI some (by kernel_rfl))⟩,
 f28 := ⟨Tryz.f403.name, by decide, Tryz.func403.trans (bI some (by kernel_rfl))⟩,
 f29 := ⟨Tryz.f404.name, by decide, Tryz.func404.trans (bI some (by kernel_rfl))⟩,
 f31 := Tryz.func411.trans (bI some (by kernel_rfl)),
 f32 := Tryz.func412.trans (bI some (by kernel_rfl)),
 f36 := ⟨Tryz.f426.name, by decide, Tryz.func426.trans (bI some (by kernel_rfl))⟩,
 f37 := ⟨Tryz.f427.name, by decide, Tryz.func427.trans (bI some (by kernel_rfl))⟩,
 f38 := ⟨Tryz.f428.name, by decide, Tryz.func428.trans (bI some (by kernel_rfl))⟩,
 f39 := ⟨Tryz.f429.name, by decide, Tryz.func429.trans (bI some (by kernel_rfl))⟩,
 f41 := ⟨Tryz.f454.name, by decide, Tryz.func454.trans (bI some (by kernel_rfl))⟩,
 t0 := jr,
 a0 := ky,
 z0 := km,
 v0 := jA,
 t3 := Tryz.underlying3,
 a3 := Tryz.isAgg3,
 z3 := Tryz.sizeOf3,
 v3 := Tryz.zeroValue3,
 t4 := kh,
 a4 := Tryz.isAgg4,
 z4 := Tryz.sizeOf4,
 v4 := kv,
 t5 := Tryz.underlying5,
 a5 := Tryz.isAgg5,
 z5 := Tryz.sizeOf5,
 v5 := Tryz.zeroValue5,
 t9 := iG,
 a9 := jT,
 z9 := jH,
 v9 := iS,
 t26 := jU,
 a26 := Tryz.isAgg82,
 z26 := Tryz.sizeOf82,
 v26 := ki,
 t27 := jU,
 a27 := Tryz.isAgg82,
 z27 := Tryz.sizeOf82,
 v27 := ki,
 t29 := iG,
 a29 := jT,
 z29 := jH,
 v29 := iS,
 t32 := Tryz.underlying353,
 a32 := Tryz.isAgg353,
 z32 := Tryz.sizeOf353,
 v32 := Tryz.zeroValue353,
 t35 := Tryz.underlying382,
 a35 := Tryz.isAgg382,
 z35 := Tryz.sizeOf382,
 v35 := Tryz.zeroValue382,
 t36 := Tryz.underlying383,
 a36 := Tryz.isAgg383,
 z36 := Tryz.sizeOf383,
 v36 := Tryz.zeroValue383,
 t41 := Tryz.underlying39,
 a41 := Tryz.isAgg39,
 z41 := Tryz.sizeOf39,
 v41 := Tryz.zeroValue39,
 t44 := Tryz.underlying389,
 a44 := Tryz.isAgg389,
 z44 := Tryz.sizeOf389,
 v44 := Tryz.zeroValue389,
 t46 := Tryz.underlying309,
 a46 := Tryz.isAgg309,
 z46 := Tryz.sizeOf309,
 v46 := Tryz.zeroValue309,
 t53 := Tryz.underlying419,
 a53 := Tryz.isAgg419,
 z53 := Tryz.sizeOf419,
 v53 := Tryz.zeroValue419,
 t57 := Tryz.underlying423,
 a57 := Tryz.isAgg423,
 z57 := Tryz.sizeOf423,
 v57 := Tryz.zeroValue423,
 t63 := Tryz.underlying446,
 a63 := Tryz.isAgg446,
 z63 := Tryz.sizeOf446,
 v63 := Tryz.zeroValue446,
 t64 := Tryz.underlying274,
 a64 := Tryz.isAgg274,
 z64 := Tryz.sizeOf274,
 v64 := Tryz.zeroValue274}
def QN : Go.Shelf.Ren := ⟨fun | 7 => 234 | 10 => 327 | n => n, fun | 23 => 296 | 26 => 9 | 3 => 4 | 28 => 223 | 0 => 0 | 27 => 222 | 33 => 214 | 4 => 4 | n => n, fun | n => n⟩
theorem Qo : Go.Proofs.SlLaysZ.n7 Tryz.prog QN := {
 mixed := by kernel_rfl,
 f7 := ⟨Tryz.f234.name, by decide, Tryz.func234.trans (bI some (by kernel_rfl))⟩,
 f10 := ⟨Tryz.f327.name, by decide, Tryz.func327.trans (bI some (by kernel_rfl))⟩,
 t0 := jr,
 a0 := ky,
 z0 := km,
 v0 := jA,
 t4 := kh,
 a4 := Tryz.isAgg4,
 z4 := Tryz.sizeOf4,
 v4 := kv,
 t23 := Tryz.underlying296,
 a23 := Tryz.isAgg296,
 z23 := Tryz.sizeOf296,
 v23 := Tryz.zeroValue296,
 t26 := iG,
 a26 := jT,
 z26 := jH,
 v26 := iS,
 t27 := Tryz.underlying222,
 a27 := Tryz.isAgg222,
 z27 := Tryz.sizeOf222,
 v27 := Tryz.zeroValue222,
 t28 := Tryz.underlying223,
 a28 := Tryz.isAgg223,
 z28 := Tryz.sizeOf223,
 v28 := Tryz.zeroValue223,
 t33 := Tryz.underlying214,
 a33 := Tryz.isAgg214,
 z33 := Tryz.sizeOf214,
 v33 := Tryz.zeroValue214}
def Qn : Go.Shelf.Ren := ⟨fun | 6 => 159 | 8 => 272 | 9 => 273 | 11 => 342 | 13 => 322 | 12 => 343 | 23 => 367 | 24 => 368 | 14 => 396 | 15 => 397 | 16 => 398 | 17 => 399 | 18 => 400 | 19 => 401 | 20 => 402 | 21 => 403 | 22 => 404 | 25 => 426 | 26 => 411 | 27 => 412 | 28 => 427 | 29 => 428 | 30 => 429 | 31 => 454 | n => n, fun | 26 => 9 | 28 => 223 | 24 => 82 | 0 => 0 | 3 => 3 | 37 => 353 | 48 => 389 | 50 => 309 | 4 => 4 | 40 => 383 | 39 => 382 | 45 => 39 | 5 => 5 | 9 => 9 | 51 => 419 | 55 => 423 | 57 => 446 | 58 => 274 | 33 => 214 | n => n, fun | n => n⟩
theorem QE : Go.Proofs.SlLaysZ.n6 Tryz.prog Qn := {
 mixed := by kernel_rfl,
 f6 := ⟨Tryz.f159.name, by decide, Tryz.func159.trans (bI some (by kernel_rfl))⟩,
 f8 := ⟨Tryz.f272.name, by decide, Tryz.func272.trans (bI some (by kernel_rfl))⟩,
 f11 := ⟨Tryz.f342.name, by decide, Tryz.func342.trans (bI some (by kernel_rfl))⟩,
 t0 := jr,
 a0 := ky,
 z0 := km,
 v0 := jA,
 t24 := jU,
 a24 := Tryz.isAgg82,
 z24 := Tryz.sizeOf82,
 v24 := ki,
 t26 := iG,
 a26 := jT,
 z26 := jH,
 v26 := iS,
 t28 := Tryz.underlying223,
 a28 := Tryz.isAgg223,
 z28 := Tryz.sizeOf223,
 v28 := Tryz.zeroValue223,
 i26 := by kernel_rfl}
end Go.Proofs.YtmlncblocfcmiaaGreat
namespace Go.Proofs.YtmlncblocfcmiaaGreat
open Go.RowKit
set_option maxRecDepth 10000
noncomputable section
structure kI where
 kK : ByteArray
 kP : ByteArray
def kW (x : kI) : List Value := [.string x.kK, .string x.kP]
def lu (x y : kI) : Bool := (mn x.kK y.kK) && ((mn x.kP y.kP) && true)
theorem lx {x y : kI} : lu x y = true ↔ x = y := by
 cases x; cases y; simp [lu, nh]
theorem Dm (x : kI) : (kW x).length = 2 := rfl
theorem yX (x : kI) : ∀ u ∈ kW x, u.oneCell' = true := by
 intro u hu
 simp only [kW, aK, dG, gM] at hu
 rcases hu with rfl | rfl <;> rfl
structure kJ where
 Kind : Int
 Head : kI
 lH : ByteArray
 B : kI
 C : kI
 lM : ByteArray
def kN (x : kJ) : List Value := [.int .i64 x.Kind, .string x.Head.kK, .string x.Head.kP, .string x.lH, .string x.B.kK, .string x.B.kP, .string x.C.kK, .string x.C.kP, .string x.lM]
def lV (x y : kJ) : Bool := (x.Kind == y.Kind) && ((lu x.Head y.Head) && ((mn x.lH y.lH) && ((lu x.B y.B) && ((lu x.C y.C) && ((mn x.lM y.lM) && true)))))
theorem mC {x y : kJ} : lV x y = true ↔ x = y := by
 cases x; cases y; simp [lV, nh, lx]
theorem np (x : kJ) : (kN x).length = 9 := rfl
theorem qQ (x : kJ) : ∀ u ∈ kN x, u.oneCell' = true := by
 intro u hu
 simp only [kN, aK, dG, gM] at hu
 rcases hu with rfl | rfl | rfl | rfl | rfl | rfl | rfl | rfl | rfl <;> rfl
structure lf where
 kI : kI
 lH : ByteArray
def mY (x : lf) : List Value := [.string x.kI.kK, .string x.kI.kP, .string x.lH]
def Bk (x y : lf) : Bool := (lu x.kI y.kI) && ((mn x.lH y.lH) && true)
theorem wF {x y : lf} : Bk x y = true ↔ x = y := by
 cases x; cases y; simp [Bk, nh, lx]
theorem yT (x : lf) : (mY x).length = 3 := rfl
theorem KL (x : lf) : ∀ u ∈ mY x, u.oneCell' = true := by
 intro u hu
 simp only [mY, aK, dG, gM] at hu
 rcases hu with rfl | rfl | rfl <;> rfl
structure mM where
 qu : Int
 qv : Int
def nC (x : mM) : List Value := [.int .i64 x.qu, .int .i64 x.qv]
def ze (x y : mM) : Bool := (x.qu == y.qu) && ((x.qv == y.qv) && true)
theorem HR {x y : mM} : ze x y = true ↔ x = y := by
 cases x; cases y; simp [ze, nh]
theorem xL (x : mM) : (nC x).length = 2 := rfl
theorem DQ (x : mM) : ∀ u ∈ nC x, u.oneCell' = true := by
 intro u hu
 simp only [nC, aK, dG, gM] at hu
 rcases hu with rfl | rfl <;> rfl
structure lQ where
 e : Int
def mK (x : lQ) : List Value := [.int .i64 x.e]
structure nJ where
 RZ : Bool
structure Key where
 lH : ByteArray
 Key : List Int
structure Signed where
 kJ : kJ
 Tag : List Int
structure Formula where
 Op : Int
 K : Int
 kI : kI
 Kids : List Formula
structure kY where
 Signed : Signed
 kO : Formula
structure nS where
 kI : kI
 kO : Formula
 nM : List kJ
structure lT where
 Name : ByteArray
 kR : List kY
 lC : List nS
structure mj where
 kK : lT
 Client : lT
 Formula : Formula
 pQ : Int
 mX : mM
 nw : Int
 oB : Int
 nU : Int
 Keys : List Key
def px (a0 : ByteArray) (a : Int) : Option Int :=
 some (xT a0 a)
def sK (a0 : ByteArray) (a : Int) : Option Int :=
 ((px a0 a).bind fun b => some b)
def vK  : List Int → Option Bool
 | [] => some true
 | d :: a => ((sK (⟨#[97, 98, 99, 100, 101, 102, 103, 104, 105, 106, 107, 108, 109, 110, 111, 112, 113, 114, 115, 116, 117, 118, 119, 120, 121, 122, 48, 49, 50, 51, 52, 53, 54, 55, 56, 57, 45]⟩ : ByteArray) d).bind fun b => (if (decide (b < 0)) then some false else (vK a)))
def Cw (a0 : ByteArray) : Option Bool :=
 ((Dy a0).bind fun a => vK a)
def tC (a0 : ByteArray) : Option Bool :=
 (((if (decide ((a0.size : Int) ≥ 1)) then some (decide ((a0.size : Int) ≤ 16)) else some false) : Option Bool).bind fun x2 => (((if x2 then ((AQ a0 0).bind fun a => ((sK (⟨#[97, 98, 99, 100, 101, 102, 103, 104, 105, 106, 107, 108, 109, 110, 111, 112, 113, 114, 115, 116, 117, 118, 119, 120, 121, 122]⟩ : ByteArray) (a.toNat : Int)).bind fun d => some (decide (d ≥ 0)))) else some false) : Option Bool).bind fun g => (((if g then ((Cw a0).bind fun b => some b) else some false) : Option Bool).bind fun h => some h)))
def uV (a0 : List Int) : Option (List Int) :=
 ((nE 1 ([]) a0).bind fun a => some a)
def rf (a0 : kI) : Option Bool :=
 ((tC a0.kK).bind fun d => (((if d then ((tC a0.kP).bind fun a => some a) else some false) : Option Bool).bind fun b => some b))
def oA (a0 a : ByteArray) : Option Int :=
 some (qe a0 a)
def qC (a0 a : ByteArray) : Option Int :=
 ((oA a0 a).bind fun b => some b)
def tE  : List Int → Option Int
 | [] => some 0
 | a :: b => (if (a != 0) then some a else (tE b))
def vE (a0 : List Int) : Option Int :=
 tE a0
def sV (a0 g : kI) : Option Int :=
 ((qC a0.kK g.kK).bind fun a => ((qC a0.kP g.kP).bind fun b => ((vE ([a, b])).bind fun d => some d)))
def uC (a0 : kJ) : Option Bool :=
 ((rf a0.Head).bind fun y => (((if (a0.Kind == 1) then (((if y then ((tC a0.lH).bind fun b => some b) else some false) : Option Bool).bind fun p => some (Sum.inr (p, (⟨a0.Kind, a0.Head, a0.lH, (⟨zS, zS⟩ : kI), (⟨zS, zS⟩ : kI), zS⟩ : kJ)))) else (if (a0.Kind == 2) then (((if y then ((rf a0.B).bind fun d => some d) else some false) : Option Bool).bind fun q => some (Sum.inr (q, (⟨a0.Kind, a0.Head, zS, a0.B, (⟨zS, zS⟩ : kI), zS⟩ : kJ)))) else (if (a0.Kind == 3) then (((if y then ((rf a0.B).bind fun h => some h) else some false) : Option Bool).bind fun r => (((if r then some (mn a0.B.kK a0.Head.kK) else some false) : Option Bool).bind fun t => (((if t then ((tC a0.lM).bind fun g => some g) else some false) : Option Bool).bind fun u => some (Sum.inr (u, (⟨a0.Kind, a0.Head, zS, a0.B, (⟨zS, zS⟩ : kI), a0.lM⟩ : kJ)))))) else (if (a0.Kind == 4) then (((if y then ((rf a0.B).bind fun k => some k) else some false) : Option Bool).bind fun v => (((if v then ((rf a0.C).bind fun j => some j) else some false) : Option Bool).bind fun w => (((if w then ((sV a0.B a0.C).bind fun i => some (decide (i < 0))) else some false) : Option Bool).bind fun x => some (Sum.inr (x, (⟨a0.Kind, a0.Head, zS, a0.B, a0.C, zS⟩ : kJ)))))) else some (Sum.inl false))))) : Option (Bool ⊕ (Bool × kJ))).bind fun s => match s with | .inl a => some a | .inr (l, m) => (((if l then some (lV m a0) else some false) : Option Bool).bind fun n => some n)))
def qY  : Nat → Int → (List Int) → Option (Bool × (List Int))
 | 0, _, _ => none
 | h + 1, a, d => (if (decide (a ≥ 128)) then ((nE 1 d ([(IntKind.u8.wrap (BitVec.ofInt (IntKind.bits .u8) (IntKind.u8.wrap a) ||| BitVec.ofInt (IntKind.bits .u8) 128).toNat)])).bind fun g => (qY h (Int.fdiv a (2 ^ min (Int.toNat 7) (IntKind.bits .i64))) g)) else ((nE 1 d ([(IntKind.u8.wrap a)])).bind fun b => some (true, b)))
def oX (a : List Int) (b : Int) : Option (Bool × (List Int)) :=
 (if (decide (b < 0)) then some (false, a) else qY lE b a)
def yb (a b : List Int) : Option (Bool × (List Int)) :=
 (if (decide ((b.length : Int) > 2048)) then some (false, a) else ((oX a (b.length : Int)).bind fun g => ((nE 1 g.2 b).bind fun d => some (true, d))))
def uA (a : List Int) (i : ByteArray) : Option (Bool × (List Int)) :=
 ((tC i).bind fun j => (((if j then ((Dy i).bind fun g => ((yb a g).bind fun b => some (b.1, b.2))) else some (false, a)) : Option (Bool × (List Int))).bind fun (h, d) => some (h, d)))
def re (a : List Int) (h : kI) : Option (Bool × (List Int)) :=
 ((rf h).bind fun l => (((if l then ((uA a h.kK).bind fun g => some (g.1, g.2)) else some (false, a)) : Option (Bool × (List Int))).bind fun (j, b) => (((if j then ((uA b h.kP).bind fun d => some (d.1, d.2)) else some (false, b)) : Option (Bool × (List Int))).bind fun (k, i) => some (k, i))))
def uz (a : List Int) : Option (List Int) :=
 ((uV a).bind fun b => some b)
def xq (a0 : kJ) : Option (List Int) :=
 ((uC a0).bind fun m => (if (!m) then some [] else ((oX ([]) a0.Kind).bind fun n => ((re n.2 a0.Head).bind fun a => (((if (a0.Kind == 1) then ((uA a.2 a0.lH).bind fun g => some g.2) else (if (a0.Kind == 2) then ((re a.2 a0.B).bind fun h => some h.2) else (if (a0.Kind == 3) then ((re a.2 a0.B).bind fun i => ((uA i.2 a0.lM).bind fun j => some j.2)) else (if (a0.Kind == 4) then ((re a.2 a0.B).bind fun k => ((re k.2 a0.C).bind fun l => some l.2)) else some a.2)))) : Option (List Int)).bind fun b => ((uz b).bind fun d => some d))))))
def sJ (a0 : List kJ) : Option (List kJ) :=
 ((nE 136 ([]) a0).bind fun a => some a)
def pC (f1 : kJ → Option Bool) : List kJ → Nat → Option Int
 | [], _ => some (-1)
 | d :: a, i35 => ((f1 d).bind fun b => (if b then some (i35 : Int) else (pC f1 a (i35 + 1))))
def uL (a0 : List kJ) (f1 : kJ → Option Bool) : Option Int :=
 pC f1 a0 0
def oC (f1 : kJ → Option Bool) : Nat → (List kJ) → Int → Int → Option (List kJ)
 | 0, _, _, _ => none
 | n321 + 1, b, a, d => (if (decide (d < (b.length : Int))) then ((((mF b d).bind fun g => ((f1 g).bind fun i => (if (!i) then ((mF b a).bind fun k => some ((b.set (Int.toNat a) g), (IntKind.i64.wrap (a + 1)))) else some (b, a)))) : Option ((List kJ) × Int)).bind fun (h, j) => (oC f1 n321 h j (IntKind.i64.wrap (d + 1)))) else ((qZ (decide (0 ≤ a) && decide (a ≤ (b.length : Int)))).bind fun _ => ((qZ (decide (0 ≤ a) && decide (a ≤ ((pa b (Int.toNat a) (⟨0, (⟨zS, zS⟩ : kI), zS, (⟨zS, zS⟩ : kI), (⟨zS, zS⟩ : kI), zS⟩ : kJ)).length : Int)))).bind fun _ => some ((pa b (Int.toNat a) (⟨0, (⟨zS, zS⟩ : kI), zS, (⟨zS, zS⟩ : kI), (⟨zS, zS⟩ : kI), zS⟩ : kJ)).take (Int.toNat a)))))
def rT (a0 : List kJ) (f1 : kJ → Option Bool) : Option (List kJ) :=
 ((uL a0 f1).bind fun a => (if (a == (-1)) then some a0 else oC f1 lE a0 a (IntKind.i64.wrap (a + 1))))
def yo (a0 : kJ) : Option Bool :=
 ((uC a0).bind fun a => some (!a))
def xb (a0 a : List Int) : Option Int :=
 some (yM a0 a)
def uo (a0 g : kJ) : Option Int :=
 ((xq a0).bind fun a => ((xq g).bind fun b => ((xb a b).bind fun d => some d)))
def pb (b : Int) : Nat → (List kJ) → Int → Int → Option ((List kJ) × Int)
 | 0, _, _, _ => none
 | i + 1, a, d, g => (if (decide (g < ((a.length - (Int.toNat b) : Nat) : Int))) then ((((mF (a.drop (Int.toNat b)) g).bind fun k => ((mF (a.drop (Int.toNat b)) (IntKind.i64.wrap (g - 1))).bind fun l => (if (!(lV k l)) then ((mF (a.drop (Int.toNat b)) g).bind fun m => ((mF a d).bind fun n => some ((a.set (Int.toNat d) m), (IntKind.i64.wrap (d + 1))))) else some (a, d)))) : Option ((List kJ) × Int)).bind fun (h, j) => (pb b i h j (IntKind.i64.wrap (g + 1)))) else some (a, d))
def pg (a0 : List kJ) : Nat → Int → Option (List kJ)
 | 0, _ => none
 | g + 1, a => (if (decide (a < (a0.length : Int))) then ((mF a0 a).bind fun h => ((mF a0 (IntKind.i64.wrap (a - 1))).bind fun i => (if (lV h i) then ((qZ (decide (0 ≤ a) && decide (a ≤ (a0.length : Int)))).bind fun _ => ((pb a lE a0 a 1 : Option ((List kJ) × Int)).bind fun (d, b) => ((qZ (decide (0 ≤ b) && decide (b ≤ (d.length : Int)))).bind fun _ => ((qZ (decide (0 ≤ b) && decide (b ≤ ((pa d (Int.toNat b) (⟨0, (⟨zS, zS⟩ : kI), zS, (⟨zS, zS⟩ : kI), (⟨zS, zS⟩ : kI), zS⟩ : kJ)).length : Int)))).bind fun _ => some ((pa d (Int.toNat b) (⟨0, (⟨zS, zS⟩ : kI), zS, (⟨zS, zS⟩ : kI), (⟨zS, zS⟩ : kI), zS⟩ : kJ)).take (Int.toNat b)))))) else (pg a0 g (IntKind.i64.wrap (a + 1)))))) else some a0)
def tH (a0 : List kJ) : Option (List kJ) :=
 (if (decide ((a0.length : Int) < 2)) then some a0 else pg a0 lE 1)
def zn (a0 : List kJ) : Option (List kJ) :=
 ((sJ a0).bind fun g => ((rT g (fun (x : kJ) => yo x)).bind fun a => ((Ak (fun (x : (kJ × kJ)) => uo x.1 x.2) a).bind fun b => ((tH b).bind fun d => some d))))
def qT (d : kJ) : List kJ → Nat → Option Int
 | [], _ => some (-1)
 | b :: a, i46 => (if (lV d b) then some (i46 : Int) else (qT d a (i46 + 1)))
def wO (a0 : List kJ) (a : kJ) : Option Int :=
 qT a a0 0
def tm (a0 : List kJ) (a : kJ) : Option Bool :=
 ((wO a0 a).bind fun b => some (decide (b ≥ 0)))
def wo (a0 : List kJ) (a : kJ) : Option Bool :=
 ((tm a0 a).bind fun b => some b)
def zj (a0 : kJ) : Option (List kI) :=
 ((uC a0).bind fun h => (if (!h) then some [] else (((if (a0.Kind != 1) then ((nE 32 ([a0.Head]) ([a0.B])).bind fun g => some g) else some ([a0.Head])) : Option (List kI)).bind fun a => (((if (a0.Kind == 4) then ((nE 32 a ([a0.C])).bind fun d => some d) else some a) : Option (List kI)).bind fun b => some b))))
def pv (i : kJ) (a : List (ByteArray × (List kJ))) (g : List kJ) : List kI → (List (kI × (List kJ))) → Option ((List kJ) × (List (kI × (List kJ))) × (List (ByteArray × (List kJ))))
 | [], b => (if (i.Kind == 3) then ((nE 136 ((mz mn a i.lM).getD []) ([i])).bind fun k => some (g, b, (oy mn a i.lM k))) else some (g, b, a))
 | d :: h, b => ((nE 136 ((mz lu b d).getD []) ([i])).bind fun j => (pv i a g h (oy lu b d j)))
def ua (i : List (kI × (List (ByteArray × Bool)))) (a : List kJ) (d : List (kI × (List kJ))) (b : List (ByteArray × (List kJ))) (g : List lf) (l : Int) (j : kJ) : Option ((List kJ) × (List (kI × (List kJ))) × (List (ByteArray × (List kJ)))) :=
 ((nE 136 a ([j])).bind fun k => ((zj j).bind fun h => ((qZ (decide (0 ≤ 1) && decide (1 ≤ (h.length : Int)))).bind fun _ => pv j b k (h.drop (Int.toNat 1)) d)))
def oJ (a : List (kI × (List (ByteArray × Bool)))) (g : List kJ) (i : List (kI × (List kJ))) (h : List (ByteArray × (List kJ))) (b : List lf) (d : Int) (j : kI) (a2 : ByteArray) : Option ((List (kI × (List (ByteArray × Bool)))) × (List lf) × Int) :=
 (if (wX mn ((mz lu a j).getD []) a2 false) then some (a, b, d) else (((if (mz lu a j).isNone then ((Gs lu a j ([])).bind fun k => some k) else some a) : Option (List (kI × (List (ByteArray × Bool))))).bind fun l => ((F8 lu mn l j a2 true).bind fun m => ((nE 48 b ([(⟨j, a2⟩ : lf)])).bind fun n => some (m, n, (IntKind.i64.wrap (d + 1)))))))
def pF (a0 : List (ByteArray × Bool)) : Option Unit :=
 some ()
def rF (a : List (kI × (List (ByteArray × Bool)))) (b : List kJ) (h : List (kI × (List kJ))) (d : List (ByteArray × (List kJ))) (g : List lf) (j : Int) (k : kI) : Option (List ByteArray) :=
 ((pF ((mz lu a k).getD [])).bind fun l => ((GG ((mz lu a k).getD [])).bind fun i => some i))
def qU (a : List kJ) (d : List (kI × (List kJ))) (b : List (ByteArray × (List kJ))) (a2 : kI) : List ByteArray → (List (kI × (List (ByteArray × Bool)))) → (List lf) → Int → Option ((List (kI × (List (ByteArray × Bool)))) × (List lf) × Int)
 | [], g, h, j => some (g, h, j)
 | l :: k, g, h, j => ((oJ g a d b h j a2 l).bind fun i => (qU a d b a2 k i.1 i.2.1 i.2.2))
def uI (h : List (kI × (List (ByteArray × Bool)))) (a : List kJ) (g : List (kI × (List kJ))) (b : List (ByteArray × (List kJ))) (d : List lf) (i : Int) (j a2 : kI) : Option ((List (kI × (List (ByteArray × Bool)))) × (List lf) × Int) :=
 ((rF h a g b d i j).bind fun k => qU a g b a2 k h d i)
def sF (a : List (kI × (List (ByteArray × Bool)))) (d : List kJ) (h : List (kI × (List kJ))) (g : List (ByteArray × (List kJ))) (b : List lf) (i : Int) (j : kJ) (a2 : lf) : Option ((List (kI × (List (ByteArray × Bool)))) × (List lf) × Int) :=
 (if (j.Kind == 2) then ((oJ a d h g b i j.Head a2.lH).bind fun m => some (m.1, m.2.1, m.2.2)) else (if (j.Kind == 3) then ((uI a d h g b i (⟨a2.lH, j.lM⟩ : kI) j.Head).bind fun k => some (k.1, k.2.1, k.2.2)) else (if (j.Kind == 4) then (((if (wX mn ((mz lu a j.B).getD []) a2.lH false) then some (wX mn ((mz lu a j.C).getD []) a2.lH false) else some false) : Option Bool).bind fun n => (if n then ((oJ a d h g b i j.Head a2.lH).bind fun l => some (l.1, l.2.1, l.2.2)) else some (a, b, i))) else some (a, b, i))))
def qc (a : List kJ) (d : List (kI × (List kJ))) (b : List (ByteArray × (List kJ))) (m : kJ) : List ByteArray → (List (kI × (List (ByteArray × Bool)))) → (List lf) → Int → Option ((List (kI × (List (ByteArray × Bool)))) × (List lf) × Int)
 | [], g, h, j => some (g, h, j)
 | l :: k, g, h, j => ((sF g a d b h j m (⟨m.B, l⟩ : lf)).bind fun i => (qc a d b m k i.1 i.2.1 i.2.2))
def tF (h : List (kI × (List (ByteArray × Bool)))) (a : List kJ) (g : List (kI × (List kJ))) (b : List (ByteArray × (List kJ))) (d : List lf) (i : Int) (j : kJ) : Option ((List (kI × (List (ByteArray × Bool)))) × (List lf) × Int) :=
 (if (j.Kind == 1) then ((oJ h a g b d i j.Head j.lH).bind fun l => some (l.1, l.2.1, l.2.2)) else ((rF h a g b d i j.B).bind fun k => qc a g b j k h d i))
def oO (i : lf) (a : List kJ) (d : List (kI × (List kJ))) (b : List (ByteArray × (List kJ))) : List kJ → (List (kI × (List (ByteArray × Bool)))) → (List lf) → Int → Option ((List (kI × (List (ByteArray × Bool)))) × (List lf) × Int)
 | [], g, h, j => some (g, h, j)
 | m :: l, g, h, j => (if (wX mn ((mz lu g m.B).getD []) i.kI.kK false) then ((oJ g a d b h j m.Head i.lH).bind fun k => (oO i a d b l k.1 k.2.1 k.2.2)) else (oO i a d b l g h j))
def pS (a : List kJ) (d : List (kI × (List kJ))) (b : List (ByteArray × (List kJ))) (k : lf) : List kJ → (List (kI × (List (ByteArray × Bool)))) → (List lf) → Int → Option ((List (kI × (List (ByteArray × Bool)))) × (List lf) × Int)
 | [], g, h, j => some (g, h, j)
 | m :: l, g, h, j => ((sF g a d b h j m k).bind fun i => (pS a d b k l i.1 i.2.1 i.2.2))
def om (d : List kJ) (b : List (kI × (List kJ))) (a : List (ByteArray × (List kJ))) : Nat → (List (kI × (List (ByteArray × Bool)))) → (List lf) → Int → Option ((List (kI × (List (ByteArray × Bool)))) × (List lf) × Int)
 | 0, _, _, _ => none
 | p + 1, i, g, j => (if (decide ((g.length : Int) > 0)) then ((mF g 0).bind fun h => ((qZ (decide (0 ≤ 1) && decide (1 ≤ (g.length : Int)))).bind fun _ => ((pS d b a h ((mz lu b h.kI).getD []) i (g.drop (Int.toNat 1)) j : Option ((List (kI × (List (ByteArray × Bool)))) × (List lf) × Int)).bind fun (k, l, q) => ((oO h d b a ((mz mn a h.kI.kP).getD []) k l q : Option ((List (kI × (List (ByteArray × Bool)))) × (List lf) × Int)).bind fun (m, n, r) => (om d b a p m n r))))) else some (i, g, j))
def vu (h : List (kI × (List (ByteArray × Bool)))) (a : List kJ) (g : List (kI × (List kJ))) (b : List (ByteArray × (List kJ))) (d : List lf) (i : Int) : Option ((List (kI × (List (ByteArray × Bool)))) × (List lf) × Int) :=
 om a g b lE h d i
def oL (m : Int) : List kJ → (List (kI × (List (ByteArray × Bool)))) → (List kJ) → (List (kI × (List kJ))) → (List (ByteArray × (List kJ))) → (List lf) → Int → Option (Int × (List (kI × (List (ByteArray × Bool)))) × (List kJ) × (List (kI × (List kJ))) × (List (ByteArray × (List kJ))) × (List lf) × Int)
 | [], d, a, g, h, i, j => ((vu d a g h i j).bind fun k => some ((IntKind.i64.wrap (k.2.2 - m)), k.1, a, g, h, k.2.1, k.2.2))
 | l :: p, d, a, g, h, i, j => ((uC l).bind fun q => (((if q then ((wo a l).bind fun r => some (!r)) else some false) : Option Bool).bind fun s => (if s then ((ua d a g h i j l).bind fun b => ((tF d b.1 b.2.1 b.2.2 i j l).bind fun n => (oL m p n.1 b.1 b.2.1 b.2.2 n.2.1 n.2.2))) else (oL m p d a g h i j))))
def uH (h : List (kI × (List (ByteArray × Bool)))) (a : List kJ) (g : List (kI × (List kJ))) (b : List (ByteArray × (List kJ))) (d : List lf) (i : Int) (j : List kJ) : Option (Int × (List (kI × (List (ByteArray × Bool)))) × (List kJ) × (List (kI × (List kJ))) × (List (ByteArray × (List kJ))) × (List lf) × Int) :=
 oL i j h a g b d i
def xB (a0 : List kJ) : Option ((List (kI × (List (ByteArray × Bool)))) × (List kJ) × (List (kI × (List kJ))) × (List (ByteArray × (List kJ))) × (List lf) × Int) :=
 ((uH ([]) ([]) ([]) ([]) ([]) 0 a0).bind fun a => some (a.2.1, a.2.2.1, a.2.2.2.1, a.2.2.2.2.1, a.2.2.2.2.2.1, a.2.2.2.2.2.2))
def rh (a0 g : lf) : Option Int :=
 ((sV a0.kI g.kI).bind fun a => ((qC a0.lH g.lH).bind fun b => ((vE ([a, b])).bind fun d => some d)))
def wN (d : List (kI × (List (ByteArray × Bool)))) (g : List kJ) (j : List (kI × (List kJ))) (h : List (ByteArray × (List kJ))) (i : List lf) (l : Int) : Option (List lf) :=
 ((NM 48 (fun (a : kI) (b : ByteArray) => (⟨a, b⟩ : lf)) d).bind fun fs => EW fs (fun k => ((Ak (fun (x : (lf × lf)) => rh x.1 x.2) k).bind fun m => some m)))
def ux (a : List (kI × (List (ByteArray × Bool)))) (b : List kJ) (h : List (kI × (List kJ))) (d : List (ByteArray × (List kJ))) (g : List lf) (i : Int) (j : kI) (a2 : ByteArray) : Option Bool :=
 some (wX mn ((mz lu a j).getD []) a2 false)
def sM  : List kJ → Int → Option Int
 | [], b => some b
 | a :: d, b => (sM d (IntKind.i64.wrap (b + (IntKind.i64.wrap ((IntKind.i64.wrap ((IntKind.i64.wrap ((IntKind.i64.wrap ((IntKind.i64.wrap ((IntKind.i64.wrap ((IntKind.i64.wrap ((IntKind.i64.wrap (20 + (a.Head.kK.size : Int))) + (a.Head.kP.size : Int))) + (a.lH.size : Int))) + (a.B.kK.size : Int))) + (a.B.kP.size : Int))) + (a.C.kK.size : Int))) + (a.C.kP.size : Int))) + (a.lM.size : Int))))))
def wx (a0 : List kJ) : Option Int :=
 sM a0 0
def sR  : List Signed → Int → Option Int
 | [], a => some a
 | b :: d, a => ((wx ([b.kJ])).bind fun g => (sR d (IntKind.i64.wrap (a + (IntKind.i64.wrap (g + (b.Tag.length : Int)))))))
def rz (h : List Signed) : List Key → Int → Option Int
 | [], a => ((sR h a : Option Int).bind fun b => some b)
 | d :: g, a => (rz h g (IntKind.i64.wrap (a + (IntKind.i64.wrap ((IntKind.i64.wrap (10 + (d.lH.size : Int))) + (d.Key.length : Int))))))
def uU (a0 : List Key) (a : List Signed) : Option Int :=
 rz a a0 0
def uu (a0 : ByteArray) : Nat → Int → Option Bool
 | 0, _ => none
 | d + 1, b => (if (decide (b < (a0.size : Int))) then ((AQ a0 b).bind fun a => (((if (decide ((a.toNat : Int) < 97)) then some true else some (decide ((a.toNat : Int) > 122))) : Option Bool).bind fun g => (((if g then (((if (decide ((a.toNat : Int) < 48)) then some true else some (decide ((a.toNat : Int) > 57))) : Option Bool).bind fun j => some j) else some false) : Option Bool).bind fun h => (((if h then some ((a.toNat : Int) != 45) else some false) : Option Bool).bind fun i => (if i then some false else (uu a0 d (IntKind.i64.wrap (b + 1)))))))) else some true)
def tM (a0 : ByteArray) : Option Bool :=
 (((if (mn a0 zS) then some true else some (decide ((a0.size : Int) > 16))) : Option Bool).bind fun x2 => (((if x2 then some true else ((AQ a0 0).bind fun b => some (decide ((b.toNat : Int) < 97)))) : Option Bool).bind fun d => (((if d then some true else ((AQ a0 0).bind fun a => some (decide ((a.toNat : Int) > 122)))) : Option Bool).bind fun g => (if g then some false else uu a0 lE 0))))
def uQ (a0 : kI) : Option Bool :=
 ((tM a0.kK).bind fun d => (((if d then ((tM a0.kP).bind fun a => some a) else some false) : Option Bool).bind fun b => some b))
def zm (a0 a : kI) : Option Bool :=
 (((if (rq a0.kK a.kK) then some true else (((if (mn a0.kK a.kK) then some (rq a0.kP a.kP) else some false) : Option Bool).bind fun d => some d)) : Option Bool).bind fun b => some b)
def yw (a0 : kJ) : Option Bool :=
 ((uQ a0.Head).bind fun t => (if (!t) then some false else (if (a0.Kind == 1) then ((tM a0.lH).bind fun i => (((if i then some (lu a0.B (⟨zS, zS⟩ : kI)) else some false) : Option Bool).bind fun k => (((if k then some (lu a0.C (⟨zS, zS⟩ : kI)) else some false) : Option Bool).bind fun l => (((if l then some (mn a0.lM zS) else some false) : Option Bool).bind fun m => some m)))) else (((if (!(mn a0.lH zS)) then some true else ((uQ a0.B).bind fun d => some (!d))) : Option Bool).bind fun n => (if n then some false else (if (a0.Kind == 2) then (((if (lu a0.C (⟨zS, zS⟩ : kI)) then some (mn a0.lM zS) else some false) : Option Bool).bind fun p => some p) else (if (a0.Kind == 3) then (((if (lu a0.C (⟨zS, zS⟩ : kI)) then some (mn a0.B.kK a0.Head.kK) else some false) : Option Bool).bind fun q => (((if q then ((tM a0.lM).bind fun j => some j) else some false) : Option Bool).bind fun r => some r)) else (((if (a0.Kind == 4) then some (mn a0.lM zS) else some false) : Option Bool).bind fun s => (((if s then ((uQ a0.C).bind fun b => some b) else some false) : Option Bool).bind fun g => (((if g then ((zm a0.B a0.C).bind fun a => some a) else some false) : Option Bool).bind fun h => some h))))))))))
def ya  : Nat → Int → ByteArray → Option ByteArray
 | 0, _, _ => none
 | n45 + 1, a, b => (if (decide (a ≥ 128)) then ((yH b (LG ([(IntKind.u8.wrap (IntKind.i64.wrap (128 + (Int.tmod a 128))))]))).bind fun d => (ya n45 (IntKind.i64.wrap (Int.tdiv a 128)) d)) else ((yH b (LG ([(IntKind.u8.wrap a)]))).bind fun g => some g))
def tb (a0 : Int) : Option ByteArray :=
 ya lE a0 zS
def vP (a0 : ByteArray) : Option ByteArray :=
 ((tb (a0.size : Int)).bind fun a => ((yH a a0).bind fun b => some b))
def uT (a0 : kI) : Option ByteArray :=
 ((vP a0.kK).bind fun a => ((vP a0.kP).bind fun b => ((yH a b).bind fun d => some d)))
def Ei (a0 : kJ) : Option ByteArray :=
 ((tb a0.Kind).bind fun g => ((uT a0.Head).bind fun h => ((yH g h).bind fun a => (if (a0.Kind == 1) then ((vP a0.lH).bind fun i => ((yH a i).bind fun m => some m)) else ((uT a0.B).bind fun j => ((yH a j).bind fun b => (((if (a0.Kind == 3) then ((vP a0.lM).bind fun l => ((yH b l).bind fun p => some p)) else some b) : Option ByteArray).bind fun d => (((if (a0.Kind == 4) then ((uT a0.C).bind fun k => ((yH d k).bind fun n => some n)) else some d) : Option ByteArray).bind fun q => some q))))))))
def ym (a0 : kJ) : Option ByteArray :=
 ((yw a0).bind fun a => (if (!a) then some zS else ((Ei a0).bind fun b => some b)))
def vk (a0 d : kJ) : Option Int :=
 ((ym a0).bind fun a => ((ym d).bind fun b => (if (rq a b) then some (-1) else (if (!(rq a b || mn a b)) then some 1 else some 0))))
def uk (a : List kJ) : List kJ → Bool → kJ → Option (Bool × kJ)
 | [], d, g => some (d, g)
 | b :: h, d, g => ((yw b).bind fun i => (((if i then (((if ((a.length : Int) == 0) then some true else ((mF a (IntKind.i64.wrap ((a.length : Int) - 1))).bind fun q => ((vk q b).bind fun k => some (decide (k < 0))))) : Option Bool).bind fun p => some p) else some false) : Option Bool).bind fun l => (((if l then (((if (!d) then some true else ((vk b g).bind fun j => some (decide (j < 0)))) : Option Bool).bind fun n => some n) else some false) : Option Bool).bind fun m => (if m then (uk a h true b) else (uk a h d g)))))
def xM (a0 : List kJ) : Nat → (List kJ) → Option (List kJ)
 | 0, _ => none
 | d + 1, a => ((uk a a0 false (⟨0, (⟨zS, zS⟩ : kI), zS, (⟨zS, zS⟩ : kI), (⟨zS, zS⟩ : kI), zS⟩ : kJ) : Option (Bool × kJ)).bind fun (g, h) => (if (!g) then some a else ((nE 136 a ([h])).bind fun b => (xM a0 d b))))
def An (a0 : List kJ) : Option (List kJ) :=
 xM a0 lE ([])
def vi (g : List kJ) : List kJ → Nat → Option Bool
 | [], _ => some true
 | d :: b, i90 => ((mF g (i90 : Int)).bind fun a => (if (!(lV d a)) then some false else (vi g b (i90 + 1))))
def xl (a0 a : List kJ) : Option Bool :=
 (if ((a0.length : Int) != (a.length : Int)) then some false else vi a a0 0)
def zP (d : kJ) : List kJ → Option Bool
 | [] => some false
 | b :: a => (if (lV b d) then some true else (zP d a))
def CS (a0 : List kJ) (a : kJ) : Option Bool :=
 zP a a0
def um (a : List ByteArray) : List ByteArray → ByteArray → Option ByteArray
 | [], d => some d
 | b :: g, d => ((tM b).bind fun i => (((if i then (((if ((a.length : Int) == 0) then some true else ((mF a (IntKind.i64.wrap ((a.length : Int) - 1))).bind fun h => some (!(rq b h || mn b h)))) : Option Bool).bind fun m => some m) else some false) : Option Bool).bind fun j => (((if j then (((if (mn d zS) then some true else some (rq b d)) : Option Bool).bind fun l => some l) else some false) : Option Bool).bind fun k => (if k then (um a g b) else (um a g d)))))
def xS (a0 : List ByteArray) : Nat → (List ByteArray) → Option (List ByteArray)
 | 0, _ => none
 | g + 1, a => ((um a a0 zS : Option ByteArray).bind fun b => (if (mn b zS) then some a else ((nE 16 a ([b])).bind fun d => (xS a0 g d))))
def CA (a0 : List ByteArray) : Option (List ByteArray) :=
 xS a0 lE ([])
def uE  : List kJ → (List ByteArray) → Option (List ByteArray)
 | [], b => ((CA b).bind fun g => some g)
 | a :: h, b => ((nE 16 b ([a.lH, a.Head.kK, a.B.kK, a.C.kK])).bind fun d => (uE h d))
def AH (a0 : List kJ) : Option (List ByteArray) :=
 uE a0 ([])
def yk (g : kI) (a2 : ByteArray) : List lf → Option Bool
 | [] => some false
 | b :: d => (((if (lu b.kI g) then some (mn b.lH a2) else some false) : Option Bool).bind fun a => (if a then some true else (yk g a2 d)))
def wh (a0 : List lf) (a : kI) (a2 : ByteArray) : Option Bool :=
 yk a a2 a0
def wR (a0 : List lf) (i : kJ) (a3 : ByteArray) : List ByteArray → Option Bool
 | [] => some false
 | a :: b => ((wh a0 i.B a).bind fun d => (((if d then ((wh a0 (⟨a, i.lM⟩ : kI) a3).bind fun g => some g) else some false) : Option Bool).bind fun h => (if h then some true else (wR a0 i a3 b))))
def BK (a0 : List lf) (a : kJ) (a2 : List ByteArray) (a3 : ByteArray) : Option Bool :=
 (if (a.Kind == 1) then some (mn a.lH a3) else (if (a.Kind == 2) then ((wh a0 a.B a3).bind fun g => some g) else (if (a.Kind == 4) then ((wh a0 a.B a3).bind fun h => (((if h then ((wh a0 a.C a3).bind fun b => some b) else some false) : Option Bool).bind fun d => some d)) else wR a0 a a3 a2)))
def vB (a0 a : lf) : Option Bool :=
 ((zm a0.kI a.kI).bind fun g => (((if g then some true else (((if (lu a0.kI a.kI) then some (rq a0.lH a.lH) else some false) : Option Bool).bind fun d => some d)) : Option Bool).bind fun b => some b))
def qE (b a0 : List lf) : List lf → Nat → Int → Option Int
 | [], _, a => some a
 | h :: g, d, a => (((if ((b.length : Int) == 0) then some true else ((mF b (IntKind.i64.wrap ((b.length : Int) - 1))).bind fun p => ((vB p h).bind fun j => some j))) : Option Bool).bind fun k => (((if k then (((if (decide (a < 0)) then some true else ((mF a0 a).bind fun n => ((vB h n).bind fun i => some i))) : Option Bool).bind fun m => some m) else some false) : Option Bool).bind fun l => (if l then (qE b a0 g (d + 1) (d : Int)) else (qE b a0 g (d + 1) a))))
def qx (a0 : List lf) : List lf → (List lf) → Option (List lf)
 | [], a => some a
 | i :: d, a => ((qE a a0 a0 0 (-1) : Option Int).bind fun b => (if (decide (b ≥ 0)) then ((mF a0 b).bind fun h => ((nE 48 a ([h])).bind fun g => (qx a0 d g))) else (qx a0 d a)))
def Dq (a0 : List lf) : Option (List lf) :=
 qx a0 a0 ([])
def wE (b : kJ) (m : List ByteArray) : List ByteArray → (List lf) → Bool → Option ((List lf) × Bool)
 | [], a, g => some (a, g)
 | d :: h, a, g => ((wh a b.Head d).bind fun j => (((if (!j) then ((BK a b m d).bind fun k => some k) else some false) : Option Bool).bind fun l => (if l then ((nE 48 a ([(⟨b.Head, d⟩ : lf)])).bind fun i => (wE b m h i true)) else (wE b m h a g))))
def yy (j : List ByteArray) : List kJ → (List lf) → Bool → Option ((List lf) × Bool)
 | [], a, b => some (a, b)
 | h :: d, a, b => ((wE h j j a b : Option ((List lf) × Bool)).bind fun (g, i) => (yy j d g i))
def yr (i : List ByteArray) (j : List kJ) : Nat → (List lf) → Option (List lf)
 | 0, _ => none
 | b + 1, h => ((yy i j h false : Option ((List lf) × Bool)).bind fun (a, g) => (if (!g) then ((Dq a).bind fun d => some d) else (yr i j b a)))
def xA (a0 : List kJ) : Option (List lf) :=
 ((An a0).bind fun b => ((AH b).bind fun a => yr a b lE ([])))
def vJ (a0 : List kJ) (b : ByteArray) : Option ((List (kI × (List (ByteArray × Bool)))) × (List kJ) × (List (kI × (List kJ))) × (List (ByteArray × (List kJ))) × (List lf) × Int × ByteArray) :=
 ((xB a0).bind fun a => some (a.1, a.2.1, a.2.2.1, a.2.2.2.1, a.2.2.2.2.1, a.2.2.2.2.2, b))
def oh (f1 : kY → Option Bool) : List kY → Nat → Option Int
 | [], _ => some (-1)
 | d :: a, i47 => ((f1 d).bind fun b => (if b then some (i47 : Int) else (oh f1 a (i47 + 1))))
def tP (a0 : List kY) (f1 : kY → Option Bool) : Option Int :=
 oh f1 a0 0
def wS (a0 : kY) (a : kJ) : Option Bool :=
 some (lV a0.Signed.kJ a)
def zh (a0 : lT) (d : kJ) : Option (kY × Bool) :=
 ((tP a0.kR (fun (x : kY) => wS x d)).bind fun a => (if (decide (a < 0)) then some ((⟨(⟨(⟨0, (⟨zS, zS⟩ : kI), zS, (⟨zS, zS⟩ : kI), (⟨zS, zS⟩ : kI), zS⟩ : kJ), []⟩ : Signed), (⟨0, 0, (⟨zS, zS⟩ : kI), []⟩ : Formula)⟩ : kY), false) else ((mF a0.kR a).bind fun b => some (b, true))))
def vg (a0 : List nS) : Option (List nS) :=
 ((nE 128 ([]) a0).bind fun a => some a)
def oQ (f1 : nS → Option Bool) : List nS → Nat → Option Int
 | [], _ => some (-1)
 | d :: a, i47 => ((f1 d).bind fun b => (if b then some (i47 : Int) else (oQ f1 a (i47 + 1))))
def vy (a0 : List nS) (f1 : nS → Option Bool) : Option Int :=
 oQ f1 a0 0
def oE (f1 : nS → Option Bool) : Nat → (List nS) → Int → Int → Option (List nS)
 | 0, _, _, _ => none
 | i + 1, b, a, d => (if (decide (d < (b.length : Int))) then ((((mF b d).bind fun g => ((f1 g).bind fun j => (if (!j) then ((mF b a).bind fun l => some ((b.set (Int.toNat a) g), (IntKind.i64.wrap (a + 1)))) else some (b, a)))) : Option ((List nS) × Int)).bind fun (h, k) => (oE f1 i h k (IntKind.i64.wrap (d + 1)))) else ((qZ (decide (0 ≤ a) && decide (a ≤ (b.length : Int)))).bind fun _ => ((qZ (decide (0 ≤ a) && decide (a ≤ ((pa b (Int.toNat a) (⟨(⟨zS, zS⟩ : kI), (⟨0, 0, (⟨zS, zS⟩ : kI), []⟩ : Formula), []⟩ : nS)).length : Int)))).bind fun _ => some ((pa b (Int.toNat a) (⟨(⟨zS, zS⟩ : kI), (⟨0, 0, (⟨zS, zS⟩ : kI), []⟩ : Formula), []⟩ : nS)).take (Int.toNat a)))))
def sE (a0 : List nS) (f1 : nS → Option Bool) : Option (List nS) :=
 ((vy a0 f1).bind fun a => (if (a == (-1)) then some a0 else oE f1 lE a0 a (IntKind.i64.wrap (a + 1))))
def ta (a0 : nS) (a : kJ) : Option Bool :=
 ((wo a0.nM a).bind fun b => some (!b))
def yu (a0 : lT) (b : kJ) : Option (List nS) :=
 ((vg a0.lC).bind fun d => ((sE d (fun (x : nS) => ta x b)).bind fun a => some a))
def qh (h : Int) (rec : Formula → Int → Option (Int × Int)) : List Formula → Int → Int → Option (Int × Int)
 | [], a, d => some (a, d)
 | i :: g, a, d => (if (decide (a > h)) then some (a, d) else ((rec i (IntKind.i64.wrap (h - a))).bind fun b => (qh h rec g (IntKind.i64.wrap (a + b.1)) (if b.2 > d then b.2 else d))))
def vY (rec : Formula → Int → Option (Int × Int)) (a0 : Formula) (d : Int) : Option (Int × Int) :=
 ((qh d rec a0.Kids 1 0 : Option (Int × Int)).bind fun (a, b) => some (a, (IntKind.i64.wrap (b + 1))))
def ph : Nat → Formula → Int → Option (Int × Int)
 | 0 => fun _ _ => none
 | n + 1 => vY (ph n)
def xI (a0 : Formula) : Option (Int × Int) :=
 ((ph lE a0 4096).bind fun a => (if (decide (a.1 > 4096)) then some (0, 0) else some (a.1, a.2)))
def xH (a0 : Formula) : Option Bool :=
 (if (a0.Op == 1) then ((rf a0.kI).bind fun g => (((if g then some ((a0.Kids.length : Int) == 0) else some false) : Option Bool).bind fun h => (((if h then some (a0.K == 0) else some false) : Option Bool).bind fun i => some i))) else (((if (a0.Op == 2) then some (a0.Op == 2) else some (a0.Op == 3)) : Option Bool).bind fun j => (if j then (((if (lu a0.kI (⟨zS, zS⟩ : kI)) then some (a0.K == 0) else some false) : Option Bool).bind fun k => some k) else (((if (a0.Op == 4) then some (lu a0.kI (⟨zS, zS⟩ : kI)) else some false) : Option Bool).bind fun l => (((if l then some (decide (a0.K ≥ 0)) else some false) : Option Bool).bind fun a => (((if a then some (decide (a0.K ≤ (a0.Kids.length : Int))) else some false) : Option Bool).bind fun b => (((if b then some (decide ((a0.Kids.length : Int) ≥ 1)) else some false) : Option Bool).bind fun d => some d)))))))
def ol (f1 : Formula → Option Bool) : List Formula → Nat → Option Int
 | [], _ => some (-1)
 | d :: a, i41 => ((f1 d).bind fun b => (if b then some (i41 : Int) else (ol f1 a (i41 + 1))))
def tL (a0 : List Formula) (f1 : Formula → Option Bool) : Option Int :=
 ol f1 a0 0
def oU (a0 : List Formula) (f1 : Formula → Option Bool) : Option Bool :=
 ((tL a0 f1).bind fun a => some (decide (a ≥ 0)))
def uY (rec : Formula → Option Bool) (a0 : Formula) : Option Bool :=
 ((rec a0).bind fun a => some (!a))
def wg (rec : Formula → Option Bool) (a0 : Formula) : Option Bool :=
 ((xH a0).bind fun d => (((if d then some (decide ((a0.Kids.length : Int) ≤ 8)) else some false) : Option Bool).bind fun g => (((if g then ((oU a0.Kids (fun (x : Formula) => uY rec x)).bind fun a => some (!a)) else some false) : Option Bool).bind fun b => some b)))
def sd : Nat → Formula → Option Bool
 | 0 => fun _ => none
 | n + 1 => wg (sd n)
def sb (a0 : Formula) : Option Bool :=
 ((xI a0).bind fun b => (((if (decide (b.1 ≥ 1)) then some (decide (b.1 ≤ 64)) else some false) : Option Bool).bind fun h => (((if h then some (decide (b.2 ≤ 6)) else some false) : Option Bool).bind fun d => (((if d then ((sd lE a0).bind fun a => some a) else some false) : Option Bool).bind fun g => some g))))
def ul (a0 : Formula) (a : Int) : Option Bool :=
 (((if (a0.Op == a) then some ((a0.Kids.length : Int) == 0) else some false) : Option Bool).bind fun x6 => some x6)
def zp  : Option Formula :=
 some (⟨2, 0, (⟨zS, zS⟩ : kI), []⟩ : Formula)
def zW  : Option Formula :=
 some (⟨3, 0, (⟨zS, zS⟩ : kI), []⟩ : Formula)
def rB (a0 : Int) : List Formula → (List Formula) → Option (List Formula)
 | [], a => some a
 | b :: d, a => (if (b.Op == a0) then ((nE 72 a b.Kids).bind fun g => (rB a0 d g)) else ((nE 72 a ([b])).bind fun h => (rB a0 d h)))
def AP (a0 : Int) (a : List Formula) : Option (List Formula) :=
 rB a0 a ([])
def rH (a0 : Formula) (a : Int) : Option Bool :=
 ((ul a0 a).bind fun b => some b)
def tj (a0 : List Formula) : Option (List Formula) :=
 ((nE 72 ([]) a0).bind fun a => some a)
def mQ (p : Int) (f3 : (Formula × Formula) → Option Int) : Nat → (List Formula) → Int → Option (List Formula)
 | 0, _, _ => none
 | h + 1, b, a => (((if (decide (a > p)) then ((mF b a).bind fun k => ((mF b (IntKind.i64.wrap (a - 1))).bind fun l => ((f3 (k, l)).bind fun i => some (decide (i < 0))))) else some false) : Option Bool).bind fun j => (if j then ((mF b (IntKind.i64.wrap (a - 1))).bind fun g => ((mF b a).bind fun d => ((mF b a).bind fun m => ((mF (b.set (Int.toNat a) g) (IntKind.i64.wrap (a - 1))).bind fun n => (mQ p f3 h ((b.set (Int.toNat a) g).set (Int.toNat (IntKind.i64.wrap (a - 1))) (⟨d.Op, d.K, d.kI, d.Kids⟩ : Formula)) (IntKind.i64.wrap (a - 1))))))) else some b))
def mD (a2 h : Int) (f3 : (Formula × Formula) → Option Int) : Nat → (List Formula) → Int → Option (List Formula)
 | 0, _, _ => none
 | g + 1, b, a => (if (decide (a < a2)) then ((mQ h f3 lE b a : Option (List Formula)).bind fun d => (mD a2 h f3 g d (IntKind.i64.wrap (a + 1)))) else some b)
def nY (a0 : List Formula) (a a2 : Int) (f3 : (Formula × Formula) → Option Int) : Option (List Formula) :=
 mD a2 a f3 lE a0 (IntKind.i64.wrap (a + 1))
def nk (a3 a2 h : Int) : Nat → (List Formula) → Int → Option (List Formula)
 | 0, _, _ => none
 | i + 1, b, a => (if (decide (a < a3)) then ((mF b (IntKind.i64.wrap (a2 + a))).bind fun g => ((mF b (IntKind.i64.wrap (h + a))).bind fun d => ((mF b (IntKind.i64.wrap (h + a))).bind fun j => ((mF (b.set (Int.toNat (IntKind.i64.wrap (h + a))) g) (IntKind.i64.wrap (a2 + a))).bind fun k => (nk a3 a2 h i ((b.set (Int.toNat (IntKind.i64.wrap (h + a))) g).set (Int.toNat (IntKind.i64.wrap (a2 + a))) (⟨d.Op, d.K, d.kI, d.Kids⟩ : Formula)) (IntKind.i64.wrap (a + 1))))))) else some b)
def nQ (a0 : List Formula) (a a2 a3 : Int) (f4 : (Formula × Formula) → Option Int) : Option (List Formula) :=
 nk a3 a2 a lE a0 0
def nz (a2 : Int) (f4 : (Formula × Formula) → Option Int) : Nat → (List Formula) → Int → Int → Option (List Formula)
 | 0, _, _, _ => none
 | n185 + 1, d, a, b => (if (a != b) then (if (decide (a > b)) then ((nQ d (IntKind.i64.wrap (a2 - a)) a2 b f4).bind fun g => (nz a2 f4 n185 g (IntKind.i64.wrap (a - b)) b)) else ((nQ d (IntKind.i64.wrap (a2 - a)) (IntKind.i64.wrap ((IntKind.i64.wrap (a2 + b)) - a)) a f4).bind fun h => (nz a2 f4 n185 h a (IntKind.i64.wrap (b - a))))) else ((nQ d (IntKind.i64.wrap (a2 - a)) a2 a f4).bind fun i => some i))
def nK (a0 : List Formula) (a a2 a3 : Int) (f4 : (Formula × Formula) → Option Int) : Option (List Formula) :=
 nz a2 f4 lE a0 (IntKind.i64.wrap (a2 - a)) (IntKind.i64.wrap (a3 - a2))
def nr (h : Int) : Nat → (List Formula) → Int → Option (List Formula)
 | 0, _, _ => none
 | i + 1, b, a => (if (decide (a < (IntKind.i64.wrap (h - 1)))) then ((mF b (IntKind.i64.wrap (a + 1))).bind fun g => ((mF b a).bind fun d => ((mF b a).bind fun j => ((mF (b.set (Int.toNat a) g) (IntKind.i64.wrap (a + 1))).bind fun k => (nr h i ((b.set (Int.toNat a) g).set (Int.toNat (IntKind.i64.wrap (a + 1))) (⟨d.Op, d.K, d.kI, d.Kids⟩ : Formula)) (IntKind.i64.wrap (a + 1))))))) else some b)
def mw (a0 : List Formula) (j : Int) (f4 : (Formula × Formula) → Option Int) : Nat → Int → Int → Option (List Formula)
 | 0, _, _ => none
 | n325 + 1, a, b => (if (decide (a < b)) then ((mF a0 (IntKind.i64.wrap (Int.fdiv (IntKind.u64.wrap (IntKind.i64.wrap (a + b))) (2 ^ min (Int.toNat 1) (IntKind.bits .u64))))).bind fun h => ((mF a0 j).bind fun i => ((f4 (h, i)).bind fun g => (if (decide (g < 0)) then (mw a0 j f4 n325 (IntKind.i64.wrap ((IntKind.i64.wrap (Int.fdiv (IntKind.u64.wrap (IntKind.i64.wrap (a + b))) (2 ^ min (Int.toNat 1) (IntKind.bits .u64)))) + 1)) b) else (mw a0 j f4 n325 a (IntKind.i64.wrap (Int.fdiv (IntKind.u64.wrap (IntKind.i64.wrap (a + b))) (2 ^ min (Int.toNat 1) (IntKind.bits .u64))))))))) else ((nr a lE a0 j : Option (List Formula)).bind fun d => some d))
def nq (g : Int) : Nat → (List Formula) → Int → Option (List Formula)
 | 0, _, _ => none
 | i + 1, b, a => (if (decide (a > g)) then ((mF b (IntKind.i64.wrap (a - 1))).bind fun h => ((mF b a).bind fun d => ((mF b a).bind fun j => ((mF (b.set (Int.toNat a) h) (IntKind.i64.wrap (a - 1))).bind fun k => (nq g i ((b.set (Int.toNat a) h).set (Int.toNat (IntKind.i64.wrap (a - 1))) (⟨d.Op, d.K, d.kI, d.Kids⟩ : Formula)) (IntKind.i64.wrap (a - 1))))))) else some b)
def my (a0 : List Formula) (a2 : Int) (f4 : (Formula × Formula) → Option Int) : Nat → Int → Int → Option (List Formula)
 | 0, _, _ => none
 | d + 1, a, b => (if (decide (a < b)) then ((mF a0 a2).bind fun i => ((mF a0 (IntKind.i64.wrap (Int.fdiv (IntKind.u64.wrap (IntKind.i64.wrap (a + b))) (2 ^ min (Int.toNat 1) (IntKind.bits .u64))))).bind fun j => ((f4 (i, j)).bind fun h => (if (!(decide (h < 0))) then (my a0 a2 f4 d (IntKind.i64.wrap ((IntKind.i64.wrap (Int.fdiv (IntKind.u64.wrap (IntKind.i64.wrap (a + b))) (2 ^ min (Int.toNat 1) (IntKind.bits .u64)))) + 1)) b) else (my a0 a2 f4 d a (IntKind.i64.wrap (Int.fdiv (IntKind.u64.wrap (IntKind.i64.wrap (a + b))) (2 ^ min (Int.toNat 1) (IntKind.bits .u64))))))))) else ((nq a lE a0 a2 : Option (List Formula)).bind fun g => some g))
def lU (a0 : List Formula) (d a3 a2 : Int) (f4 : (Formula × Formula) → Option Int) (rec : (List Formula) → Int → Int → Int → ((Formula × Formula) → Option Int) → Option (List Formula)) : Nat → Int → Int → Option (List Formula)
 | 0, _, _ => none
 | i + 1, a, b => (if (decide (a < b)) then ((mF a0 (IntKind.i64.wrap ((IntKind.i64.wrap ((IntKind.i64.wrap ((IntKind.i64.wrap (Int.fdiv (IntKind.u64.wrap (IntKind.i64.wrap (d + a3))) (2 ^ min (Int.toNat 1) (IntKind.bits .u64)))) + a2)) - 1)) - (IntKind.i64.wrap (Int.fdiv (IntKind.u64.wrap (IntKind.i64.wrap (a + b))) (2 ^ min (Int.toNat 1) (IntKind.bits .u64))))))).bind fun n => ((mF a0 (IntKind.i64.wrap (Int.fdiv (IntKind.u64.wrap (IntKind.i64.wrap (a + b))) (2 ^ min (Int.toNat 1) (IntKind.bits .u64))))).bind fun p => ((f4 (n, p)).bind fun j => (if (!(decide (j < 0))) then (lU a0 d a3 a2 f4 rec i (IntKind.i64.wrap ((IntKind.i64.wrap (Int.fdiv (IntKind.u64.wrap (IntKind.i64.wrap (a + b))) (2 ^ min (Int.toNat 1) (IntKind.bits .u64)))) + 1)) b) else (lU a0 d a3 a2 f4 rec i a (IntKind.i64.wrap (Int.fdiv (IntKind.u64.wrap (IntKind.i64.wrap (a + b))) (2 ^ min (Int.toNat 1) (IntKind.bits .u64))))))))) else (((((if (decide (a < a2)) then some (decide (a2 < (IntKind.i64.wrap ((IntKind.i64.wrap ((IntKind.i64.wrap (Int.fdiv (IntKind.u64.wrap (IntKind.i64.wrap (d + a3))) (2 ^ min (Int.toNat 1) (IntKind.bits .u64)))) + a2)) - a)))) else some false) : Option Bool).bind fun s => (if s then ((nK a0 a a2 (IntKind.i64.wrap ((IntKind.i64.wrap ((IntKind.i64.wrap (Int.fdiv (IntKind.u64.wrap (IntKind.i64.wrap (d + a3))) (2 ^ min (Int.toNat 1) (IntKind.bits .u64)))) + a2)) - a)) f4).bind fun m => some m) else some a0)) : Option (List Formula)).bind fun g => (((((if (decide (d < a)) then some (decide (a < (IntKind.i64.wrap (Int.fdiv (IntKind.u64.wrap (IntKind.i64.wrap (d + a3))) (2 ^ min (Int.toNat 1) (IntKind.bits .u64)))))) else some false) : Option Bool).bind fun r => (if r then ((rec g d a (IntKind.i64.wrap (Int.fdiv (IntKind.u64.wrap (IntKind.i64.wrap (d + a3))) (2 ^ min (Int.toNat 1) (IntKind.bits .u64)))) f4).bind fun l => some l) else some g)) : Option (List Formula)).bind fun h => (((if (decide ((IntKind.i64.wrap (Int.fdiv (IntKind.u64.wrap (IntKind.i64.wrap (d + a3))) (2 ^ min (Int.toNat 1) (IntKind.bits .u64)))) < (IntKind.i64.wrap ((IntKind.i64.wrap ((IntKind.i64.wrap (Int.fdiv (IntKind.u64.wrap (IntKind.i64.wrap (d + a3))) (2 ^ min (Int.toNat 1) (IntKind.bits .u64)))) + a2)) - a)))) then some (decide ((IntKind.i64.wrap ((IntKind.i64.wrap ((IntKind.i64.wrap (Int.fdiv (IntKind.u64.wrap (IntKind.i64.wrap (d + a3))) (2 ^ min (Int.toNat 1) (IntKind.bits .u64)))) + a2)) - a)) < a3)) else some false) : Option Bool).bind fun q => (if q then ((rec h (IntKind.i64.wrap (Int.fdiv (IntKind.u64.wrap (IntKind.i64.wrap (d + a3))) (2 ^ min (Int.toNat 1) (IntKind.bits .u64)))) (IntKind.i64.wrap ((IntKind.i64.wrap ((IntKind.i64.wrap (Int.fdiv (IntKind.u64.wrap (IntKind.i64.wrap (d + a3))) (2 ^ min (Int.toNat 1) (IntKind.bits .u64)))) + a2)) - a)) a3 f4).bind fun k => some k) else some h)))))
def pW (rec : (List Formula) → Int → Int → Int → ((Formula × Formula) → Option Int) → Option (List Formula)) (a0 : List Formula) (a a2 a3 : Int) (f4 : (Formula × Formula) → Option Int) : Option (List Formula) :=
 (if ((IntKind.i64.wrap (a2 - a)) == 1) then mw a0 a f4 lE a2 a3 else (if ((IntKind.i64.wrap (a3 - a2)) == 1) then my a0 a2 f4 lE a a2 else (((if (decide (a2 > (IntKind.i64.wrap (Int.fdiv (IntKind.u64.wrap (IntKind.i64.wrap (a + a3))) (2 ^ min (Int.toNat 1) (IntKind.bits .u64)))))) then some ((IntKind.i64.wrap ((IntKind.i64.wrap ((IntKind.i64.wrap (Int.fdiv (IntKind.u64.wrap (IntKind.i64.wrap (a + a3))) (2 ^ min (Int.toNat 1) (IntKind.bits .u64)))) + a2)) - a3)), (IntKind.i64.wrap (Int.fdiv (IntKind.u64.wrap (IntKind.i64.wrap (a + a3))) (2 ^ min (Int.toNat 1) (IntKind.bits .u64))))) else some (a, a2)) : Option (Int × Int)).bind fun (b, d) => lU a0 a a3 a2 f4 rec lE b d)))
def mG : Nat → (List Formula) → Int → Int → Int → ((Formula × Formula) → Option Int) → Option (List Formula)
 | 0 => fun _ _ _ _ _ => none
 | n + 1 => pW (mG n)
def nx (j b : Int) (f2 : (Formula × Formula) → Option Int) : Nat → (List Formula) → Int → Int → Option ((List Formula) × Int)
 | 0, _, _, _ => none
 | h + 1, g, d, a => (if (decide (a ≤ j)) then ((mG lE g d (IntKind.i64.wrap (d + b)) a f2).bind fun i => (nx j b f2 h i a (IntKind.i64.wrap (a + (IntKind.i64.wrap (2 * b)))))) else some (g, d))
def nf (k : Int) (f2 : (Formula × Formula) → Option Int) : Nat → (List Formula) → Int → Option (List Formula)
 | 0, _, _ => none
 | i + 1, d, a => (if (decide (a < k)) then ((nx k a f2 lE d 0 (IntKind.i64.wrap (2 * a)) : Option ((List Formula) × Int)).bind fun (g, b) => (((if (decide ((IntKind.i64.wrap (b + a)) < k)) then ((mG lE g b (IntKind.i64.wrap (b + a)) k f2).bind fun j => some j) else some g) : Option (List Formula)).bind fun h => (nf k f2 i h (IntKind.i64.wrap (a * 2))))) else some d)
def ng (j : Int) (f2 : (Formula × Formula) → Option Int) : Nat → (List Formula) → Int → Int → Option (List Formula)
 | 0, _, _, _ => none
 | n123 + 1, d, i, a => (if (decide (a ≤ j)) then ((nY d i a f2).bind fun g => (ng j f2 n123 g a (IntKind.i64.wrap (a + 20)))) else ((nY d i j f2).bind fun h => ((nf j f2 lE h 20 : Option (List Formula)).bind fun b => some b)))
def rW (a0 : List Formula) (a : Int) (f2 : (Formula × Formula) → Option Int) : Option (List Formula) :=
 ng a f2 lE a0 0 20
def pI (a0 : List Formula) (f1 : (Formula × Formula) → Option Int) : Option (List Formula) :=
 ((rW a0 (a0.length : Int) f1).bind fun a => some a)
def rC (rec : (List Int) → Formula → Option (List Int)) : List Formula → (List Int) → Option (List Int)
 | [], a => some a
 | g :: b, a => ((rec a g).bind fun d => (rC rec b d))
def wm (rec : (List Int) → Formula → Option (List Int)) (b : List Int) (a : Formula) : Option (List Int) :=
 ((oX b a.Op).bind fun i => (if (a.Op == 1) then ((re i.2 a.kI).bind fun h => some h.2) else (((if (a.Op == 4) then ((oX i.2 a.K).bind fun d => some d.2) else some i.2) : Option (List Int)).bind fun g => ((oX g (a.Kids.length : Int)).bind fun j => rC rec a.Kids j.2))))
def qK : Nat → (List Int) → Formula → Option (List Int)
 | 0 => fun _ _ => none
 | n + 1 => wm (qK n)
def wT (a : List Int) (b : Formula) : Option (Bool × (List Int)) :=
 ((sb b).bind fun d => (if (!d) then some (false, a) else ((qK lE a b).bind fun g => some (true, g))))
def tU (a0 : Formula) : Option (List Int) :=
 ((wT ([]) a0).bind fun b => ((uz b.2).bind fun a => some a))
def tR (a0 g : Formula) : Option Int :=
 ((tU a0).bind fun a => ((tU g).bind fun b => ((xb a b).bind fun d => some d)))
def vN (a0 : List Formula) : Option (List Formula) :=
 ((tj a0).bind fun b => ((pI b (fun (x : (Formula × Formula)) => tR x.1 x.2)).bind fun a => some a))
def nH (b : Int) (f1 : (Formula × Formula) → Option Bool) : Nat → (List Formula) → Int → Int → Option ((List Formula) × Int)
 | 0, _, _, _ => none
 | i + 1, a, d, g => (if (decide (g < ((a.length - (Int.toNat b) : Nat) : Int))) then ((((mF (a.drop (Int.toNat b)) g).bind fun l => ((mF (a.drop (Int.toNat b)) (IntKind.i64.wrap (g - 1))).bind fun m => ((f1 (l, m)).bind fun j => (if (!j) then ((mF (a.drop (Int.toNat b)) g).bind fun n => ((mF a d).bind fun p => some ((a.set (Int.toNat d) n), (IntKind.i64.wrap (d + 1))))) else some (a, d))))) : Option ((List Formula) × Int)).bind fun (h, k) => (nH b f1 i h k (IntKind.i64.wrap (g + 1)))) else some (a, d))
def nF (a0 : List Formula) (f1 : (Formula × Formula) → Option Bool) : Nat → Int → Option (List Formula)
 | 0, _ => none
 | g + 1, a => (if (decide (a < (a0.length : Int))) then ((mF a0 a).bind fun i => ((mF a0 (IntKind.i64.wrap (a - 1))).bind fun j => ((f1 (i, j)).bind fun h => (if h then ((qZ (decide (0 ≤ a) && decide (a ≤ (a0.length : Int)))).bind fun _ => ((nH a f1 lE a0 a 1 : Option ((List Formula) × Int)).bind fun (d, b) => ((qZ (decide (0 ≤ b) && decide (b ≤ (d.length : Int)))).bind fun _ => ((qZ (decide (0 ≤ b) && decide (b ≤ ((pa d (Int.toNat b) (⟨0, 0, (⟨zS, zS⟩ : kI), []⟩ : Formula)).length : Int)))).bind fun _ => some ((pa d (Int.toNat b) (⟨0, 0, (⟨zS, zS⟩ : kI), []⟩ : Formula)).take (Int.toNat b)))))) else (nF a0 f1 g (IntKind.i64.wrap (a + 1))))))) else some a0)
def qt (a0 : List Formula) (f1 : (Formula × Formula) → Option Bool) : Option (List Formula) :=
 (if (decide ((a0.length : Int) < 2)) then some a0 else nF a0 f1 lE 1)
def mu (h : List Formula) (f2 : (Formula × Formula) → Option Bool) : List Formula → Nat → Option Bool
 | [], _ => some true
 | g :: d, i95 => ((mF h (i95 : Int)).bind fun b => ((f2 (g, b)).bind fun a => (if (!a) then some false else (mu h f2 d (i95 + 1)))))
def nG (a0 a : List Formula) (f2 : (Formula × Formula) → Option Bool) : Option Bool :=
 (if ((a0.length : Int) != (a.length : Int)) then some false else mu a f2 a0 0)
def wM (rec : Formula → Formula → Option Bool) (a0 a : Formula) : Option Bool :=
 (((if (a0.Op == a.Op) then some (a0.K == a.K) else some false) : Option Bool).bind fun d => (((if d then some (lu a0.kI a.kI) else some false) : Option Bool).bind fun g => (((if g then ((nG a0.Kids a.Kids (fun (x : (Formula × Formula)) => rec x.1 x.2)).bind fun b => some b) else some false) : Option Bool).bind fun h => some h)))
def oZ : Nat → Formula → Formula → Option Bool
 | 0 => fun _ _ => none
 | n + 1 => wM (oZ n)
def pc (a0 : lQ) (d : Int) (a2 : List Formula) : Option (Formula × lQ) :=
 ((AP d a2).bind fun j => ((oU j (fun (x : Formula) => rH x (IntKind.i64.wrap (5 - d)))).bind fun g => (if g then some ((⟨(IntKind.i64.wrap (5 - d)), 0, (⟨zS, zS⟩ : kI), []⟩ : Formula), a0) else ((vN j).bind fun h => ((qt h (fun (x : (Formula × Formula)) => oZ lE x.1 x.2)).bind fun a => (((if (decide ((a.length : Int) > 64)) then some (⟨12⟩ : lQ) else some a0) : Option lQ).bind fun b => (if ((a.length : Int) == 1) then ((mF a 0).bind fun i => some (i, b)) else some ((⟨d, 0, (⟨zS, zS⟩ : kI), a⟩ : Formula), b))))))))
def nD (a0 : lQ) : List Formula → Int → (List Formula) → Option (Formula × lQ)
 | [], b, a => (if (decide (b ≤ 0)) then (zp.bind fun m => some (m, a0)) else (if (decide (b > (a.length : Int))) then (zW.bind fun n => some (n, a0)) else (if (b == (a.length : Int)) then ((pc a0 2 a).bind fun h => some (h.1, h.2)) else (if (b == 1) then ((pc a0 3 a).bind fun i => some (i.1, i.2)) else ((vN a).bind fun p => some ((⟨4, b, (⟨zS, zS⟩ : kI), p⟩ : Formula), a0))))))
 | g :: d, b, a => ((ul g 2).bind fun k => (if k then (nD a0 d (IntKind.i64.wrap (b - 1)) a) else ((ul g 3).bind fun l => (if (!l) then ((nE 72 a ([g])).bind fun j => (nD a0 d b j)) else (nD a0 d b a)))))
def rI (a0 : lQ) (a : Int) (a2 : List Formula) : Option (Formula × lQ) :=
 nD a0 a2 a ([])
def oF (rec : lQ → Formula → Option (Formula × lQ)) (l : Formula) : List Formula → (List Formula) → lQ → Option (Formula × lQ)
 | [], a, b => (if (l.Op == 4) then ((rI b l.K a).bind fun g => some (g.1, g.2)) else ((pc b l.Op a).bind fun h => some (h.1, h.2)))
 | k :: i, a, b => ((rec b k).bind fun d => ((nE 72 a ([d.1])).bind fun j => (oF rec l i j d.2)))
def sX (rec : lQ → Formula → Option (Formula × lQ)) (a0 : lQ) (a : Formula) : Option (Formula × lQ) :=
 (if (a.Op == 1) then some (a, a0) else oF rec a a.Kids ([]) a0)
def od : Nat → lQ → Formula → Option (Formula × lQ)
 | 0 => fun _ _ => none
 | n + 1 => sX (od n)
def yh (a0 : Formula) : Option (Formula × Int) :=
 ((sb a0).bind fun g => (if (!g) then some ((⟨0, 0, (⟨zS, zS⟩ : kI), []⟩ : Formula), 11) else ((od lE (⟨0⟩ : lQ) a0).bind fun a => (((if (a.2.e != 0) then some true else ((sb a.1).bind fun b => some (!b))) : Option Bool).bind fun d => (if d then some ((⟨0, 0, (⟨zS, zS⟩ : kI), []⟩ : Formula), 12) else some (a.1, 0))))))
def yp (a0 b : Formula) : Option (Formula × Int) :=
 ((yh (⟨2, 0, (⟨zS, zS⟩ : kI), [a0, b]⟩ : Formula)).bind fun a => some (a.1, a.2))
def ui  : List Formula → Int → Int → Int → kI → (List Formula) → Option (Int × Int × Int × kI × (List Formula))
 | [], d, g, h, i, b => some (d, g, h, i, b)
 | k :: j, d, g, h, i, b => (if (d != 0) then some (d, g, h, i, b) else ((yp (⟨g, h, i, b⟩ : Formula) k).bind fun a => (ui j a.2 ((a.1).Op) ((a.1).K) ((a.1).kI) ((a.1).Kids))))
def wH (a0 : List Formula) : Option (Formula × Int) :=
 ((mF a0 0).bind fun x6 => ((yh x6).bind fun a => ((qZ (decide (0 ≤ 1) && decide (1 ≤ (a0.length : Int)))).bind fun _ => ((ui (a0.drop (Int.toNat 1)) a.2 ((a.1).Op) ((a.1).K) ((a.1).kI) ((a.1).Kids) : Option (Int × Int × Int × kI × (List Formula))).bind fun (b, g, h, i, d) => (if (b != 0) then some ((⟨0, 0, (⟨zS, zS⟩ : kI), []⟩ : Formula), b) else some ((⟨g, h, i, d⟩ : Formula), 0))))))
def uP  : List nS → (List Formula) → Option (Formula × Int)
 | [], a => ((wH a).bind fun b => some (b.1, b.2))
 | h :: d, a => ((nE 72 a ([h.kO])).bind fun g => (uP d g))
def Bc (a0 : lT) (d : kJ) : Option (Formula × Int) :=
 ((zh a0 d).bind fun a => (if (!a.2) then some ((⟨0, 0, (⟨zS, zS⟩ : kI), []⟩ : Formula), 42) else ((yu a0 d).bind fun b => uP b ([(a.1).kO]))))
def qg (rec : Formula → (kI → Option Bool) → Option Bool) (f1 : kI → Option Bool) (a0 : Formula) : List Formula → Int → Option Bool
 | [], a => (if (a0.Op == 2) then some (a == (a0.Kids.length : Int)) else (if (a0.Op == 3) then some (decide (a > 0)) else some (decide (a ≥ a0.K))))
 | g :: b, a => ((rec g f1).bind fun d => (if d then (qg rec f1 a0 b (IntKind.i64.wrap (a + 1))) else (qg rec f1 a0 b a)))
def wc (rec : Formula → (kI → Option Bool) → Option Bool) (a0 : Formula) (f1 : kI → Option Bool) : Option Bool :=
 (if (a0.Op == 1) then ((f1 a0.kI).bind fun a => some a) else qg rec f1 a0 a0.Kids 0)
def qM : Nat → Formula → (kI → Option Bool) → Option Bool
 | 0 => fun _ _ => none
 | n + 1 => wc (qM n)
def vM (a0 : Formula) (f1 : kI → Option Bool) : Option Bool :=
 ((sb a0).bind fun d => (((if d then ((qM lE a0 f1).bind fun a => some a) else some false) : Option Bool).bind fun b => some b))
def qN (a0 : kI) (h : List (kI × (List (ByteArray × Bool)))) (a : List kJ) (g : List (kI × (List kJ))) (b : List (ByteArray × (List kJ))) (d : List lf) (i : Int) (c1 : ByteArray) : Option Bool :=
 ((ux h a g b d i a0 c1).bind fun j => some j)
def rV (a0 : lT) (d : ((List (kI × (List (ByteArray × Bool)))) × (List kJ) × (List (kI × (List kJ))) × (List (ByteArray × (List kJ))) × (List lf) × Int × ByteArray)) : List kY → (List kJ) → Option (List kJ)
 | [], a => ((zn a).bind fun j => some j)
 | g :: b, a => ((Bc a0 g.Signed.kJ).bind fun r417 => (((if (r417.2 == 0) then ((vM r417.1 (fun (x : kI) => qN x d.1 d.2.1 d.2.2.1 d.2.2.2.1 d.2.2.2.2.1 d.2.2.2.2.2.1 d.2.2.2.2.2.2)).bind fun i => some i) else some false) : Option Bool).bind fun k => (if k then ((nE 136 a ([g.Signed.kJ])).bind fun h => (rV a0 d b h)) else (rV a0 d b a))))
def tz (a0 : lT) (a : List kJ) (a2 : ByteArray) : Option (List kJ) :=
 ((vJ a a2).bind fun b => rV a0 b a0.kR ([]))
def qm (a0 k : lT) : Nat → (List kJ) → (List kJ) → Int → Option ((List kJ) × (List kJ) × Int)
 | 0, _, _, _ => none
 | i + 1, a, b, h => ((tz a0 b k.Name).bind fun d => ((tz k a a0.Name).bind fun g => (((if ((d.length : Int) == (a.length : Int)) then some ((g.length : Int) == (b.length : Int)) else some false) : Option Bool).bind fun j => (if j then some (a, b, h) else (qm a0 k i d g (IntKind.i64.wrap (h + 1)))))))
def wG (a0 a : lT) : Option ((List kJ) × (List kJ) × Int) :=
 qm a0 a lE ([]) ([]) 0
def pL (a0 : List kY) : Option (List kY) :=
 ((nE 232 ([]) a0).bind fun a => some a)
def sQ (rec : (List Formula) → Option Int) : List Formula → Int → Option Int
 | [], b => some b
 | a :: g, b => ((rec a.Kids).bind fun d => (sQ rec g (IntKind.i64.wrap (b + (IntKind.i64.wrap ((IntKind.i64.wrap (1 + (IntKind.i64.wrap (Int.tdiv (IntKind.i64.wrap ((a.kI.kK.size : Int) + (a.kI.kP.size : Int))) 16)))) + d))))))
def xh (rec : (List Formula) → Option Int) (a0 : List Formula) : Option Int :=
 sQ rec a0 0
def pH : Nat → (List Formula) → Option Int
 | 0 => fun _ => none
 | n + 1 => xh (pH n)
def sS  : List nS → Int → Option Int
 | [], b => some b
 | a :: d, b => ((pH lE ([a.kO])).bind fun g => ((wx a.nM).bind fun h => (sS d (IntKind.i64.wrap (b + (IntKind.i64.wrap ((IntKind.i64.wrap ((IntKind.i64.wrap ((a.kI.kK.size : Int) + (a.kI.kP.size : Int))) + (IntKind.i64.wrap (20 * g)))) + h)))))))
def sO (a0 : lT) : List kY → Int → Option Int
 | [], a => ((sS a0.lC a : Option Int).bind fun d => some d)
 | b :: g, a => ((((uU ([]) ([b.Signed])).bind fun j => some (j, ([b.kO]))) : Option (Int × (List Formula))).bind fun (k, h) => ((pH lE h).bind fun i => (sO a0 g (IntKind.i64.wrap (a + (IntKind.i64.wrap (k + (IntKind.i64.wrap (20 * i)))))))))
def wD (a0 : lT) : Option Int :=
 sO a0 a0.kR (a0.Name.size : Int)
def yz (a0 : mj) : Option Int :=
 ((((wD a0.kK).bind fun g => ((wD a0.Client).bind fun h => some ((IntKind.i64.wrap (g + h)), ([a0.Formula])))) : Option (Int × (List Formula))).bind fun (i, a) => ((pH lE a).bind fun b => ((uU a0.Keys ([])).bind fun d => some (IntKind.i64.wrap ((IntKind.i64.wrap (i + (IntKind.i64.wrap (20 * b)))) + d)))))
def sN (h : ByteArray) : List lf → (List kI) → Option (List kI)
 | [], a => some a
 | g :: b, a => (if (mn g.lH h) then ((nE 32 a ([g.kI])).bind fun d => (sN h b d)) else (sN h b a))
def uN (a0 : List lf) (a : ByteArray) : Option (List kI) :=
 sN a a0 ([])
def uy (rec : Formula → Option Int) : List Formula → Int → Option Int
 | [], a => some a
 | g :: d, a => ((rec g).bind fun b => (uy rec d (IntKind.i64.wrap (a + b))))
def AA (rec : Formula → Option Int) (a0 : Formula) : Option Int :=
 uy rec a0.Kids 1
def wu : Nat → Formula → Option Int
 | 0 => fun _ => none
 | n + 1 => AA (wu n)
def vc (rec : Formula → Option Int) : List Formula → Int → Option Int
 | [], a => some (IntKind.i64.wrap (a + 1))
 | g :: d, a => ((rec g).bind fun b => (vc rec d (if b > a then b else a)))
def AV (rec : Formula → Option Int) (a0 : Formula) : Option Int :=
 vc rec a0.Kids 0
def xf : Nat → Formula → Option Int
 | 0 => fun _ => none
 | n + 1 => AV (xf n)
def vo (rec : Formula → Option Bool) : List Formula → Option Bool
 | [] => some true
 | d :: a => ((rec d).bind fun b => (if (!b) then some false else (vo rec a)))
def AS (rec : Formula → Option Bool) (a0 : Formula) : Option Bool :=
 (if (a0.Op == 1) then ((uQ a0.kI).bind fun n => (((if n then some ((a0.Kids.length : Int) == 0) else some false) : Option Bool).bind fun h => (((if h then some (a0.K == 0) else some false) : Option Bool).bind fun i => some i))) else (((if (decide (a0.Op < 1)) then some true else some (decide (a0.Op > 4))) : Option Bool).bind fun j => (((if j then some true else some (!(lu a0.kI (⟨zS, zS⟩ : kI)))) : Option Bool).bind fun k => (((if k then some true else some (decide ((a0.Kids.length : Int) > 8))) : Option Bool).bind fun l => (if l then some false else (((if (decide (a0.Op < 4)) then some (a0.K != 0) else some false) : Option Bool).bind fun m => (((if m then some true else (((if (a0.Op == 4) then (((if (decide ((a0.Kids.length : Int) < 1)) then some true else some (decide (a0.K < 0))) : Option Bool).bind fun d => (((if d then some true else some (decide (a0.K > (a0.Kids.length : Int)))) : Option Bool).bind fun g => some g)) else some false) : Option Bool).bind fun b => some b)) : Option Bool).bind fun a => (if a then some false else vo rec a0.Kids))))))))
def xv : Nat → Formula → Option Bool
 | 0 => fun _ => none
 | n + 1 => AS (xv n)
def sh (a0 : Formula) : Option Bool :=
 ((wu lE a0).bind fun h => (((if (decide (h ≤ 64)) then ((xf lE a0).bind fun b => some (decide (b ≤ 6))) else some false) : Option Bool).bind fun d => (((if d then ((xv lE a0).bind fun a => some a) else some false) : Option Bool).bind fun g => some g)))
def xw (a0 : Formula) (a : Int) : Option Bool :=
 (((if (a0.Op == a) then some ((a0.Kids.length : Int) == 0) else some false) : Option Bool).bind fun x6 => some x6)
def uB (rec : Formula → Option ByteArray) : List Formula → ByteArray → Option ByteArray
 | [], a => some a
 | h :: g, a => ((rec h).bind fun b => ((yH a b).bind fun d => (uB rec g d)))
def Av (rec : Formula → Option ByteArray) (a0 : Formula) : Option ByteArray :=
 ((tb a0.Op).bind fun g => (if (a0.Op == 1) then ((uT a0.kI).bind fun k => ((yH g k).bind fun h => some h)) else (((if (a0.Op == 4) then ((tb a0.K).bind fun a => ((yH g a).bind fun b => some b)) else some g) : Option ByteArray).bind fun j => ((tb (a0.Kids.length : Int)).bind fun d => ((yH j d).bind fun i => uB rec a0.Kids i)))))
def tO : Nat → Formula → Option ByteArray
 | 0 => fun _ => none
 | n + 1 => Av (tO n)
def zf (a0 j : Formula) : Option Int :=
 ((((sh a0).bind fun h => (if h then ((tO lE a0).bind fun i => some i) else some zS)) : Option ByteArray).bind fun a => ((((sh j).bind fun d => (if d then ((tO lE j).bind fun g => some g) else some zS)) : Option ByteArray).bind fun b => (if (rq a b) then some (-1) else (if (!(rq a b || mn a b)) then some 1 else some 0))))
def vh (h : Formula) (rec : Formula → Formula → Option Bool) : List Formula → Nat → Option Bool
 | [], _ => some true
 | d :: a, i182 => ((mF h.Kids (i182 : Int)).bind fun g => ((rec d g).bind fun b => (if (!b) then some false else (vh h rec a (i182 + 1)))))
def AT (rec : Formula → Formula → Option Bool) (a0 a : Formula) : Option Bool :=
 (((if (a0.Op != a.Op) then some true else some (a0.K != a.K)) : Option Bool).bind fun b => (((if b then some true else some (!(lu a0.kI a.kI))) : Option Bool).bind fun d => (((if d then some true else some ((a0.Kids.length : Int) != (a.Kids.length : Int))) : Option Bool).bind fun g => (if g then some false else vh a rec a0.Kids 0))))
def vH : Nat → Formula → Formula → Option Bool
 | 0 => fun _ _ => none
 | n + 1 => AT (vH n)
def tV (b : List Formula) (d : Formula) : Nat → Int → Option Int
 | 0, _ => none
 | g + 1, a => (((if (decide (a > 0)) then ((mF b (IntKind.i64.wrap (a - 1))).bind fun j => ((zf j d).bind fun h => some (decide (h > 0)))) else some false) : Option Bool).bind fun i => (if i then (tV b d g (IntKind.i64.wrap (a - 1))) else some a))
def nN (p : Bool) : List Formula → (List Formula) → Option (List Formula)
 | [], a => some a
 | d :: g, a => ((tV a d lE (a.length : Int) : Option Int).bind fun b => (((if p then some (decide (b > 0)) else some false) : Option Bool).bind fun l => (((if l then ((mF a (IntKind.i64.wrap (b - 1))).bind fun n => ((vH lE n d).bind fun k => some k)) else some false) : Option Bool).bind fun m => (if m then (nN p g a) else ((qZ (decide (0 ≤ b) && decide (b ≤ (a.length : Int)))).bind fun _ => ((nE 72 ([]) (a.take (Int.toNat b))).bind fun h => ((nE 72 h ([d])).bind fun i => ((qZ (decide (0 ≤ b) && decide (b ≤ (a.length : Int)))).bind fun _ => ((nE 72 i (a.drop (Int.toNat b))).bind fun j => (nN p g j))))))))))
def xC (a0 : List Formula) (a : Bool) : Option (List Formula) :=
 nN a a0 ([])
def rO (g : Int) (a0 : nJ) : List Formula → Option ((Formula × nJ) ⊕ Unit)
 | [] => some (Sum.inr ())
 | d :: a => ((xw d (IntKind.i64.wrap (5 - g))).bind fun b => (if b then some (Sum.inl ((⟨(IntKind.i64.wrap (5 - g)), 0, (⟨zS, zS⟩ : kI), []⟩ : Formula), a0)) else (rO g a0 a)))
def ox (i : Int) (a0 : nJ) : List Formula → (List Formula) → Option (Formula × nJ)
 | [], a => ((rO i a0 a : Option ((Formula × nJ) ⊕ Unit)).bind fun s => match s with | .inl l => some l | .inr _ => ((xC a true).bind fun b => (((if a0.RZ then some true else some (decide ((b.length : Int) > 64))) : Option Bool).bind fun h => (if ((b.length : Int) == 1) then ((mF b 0).bind fun n => some (n, (⟨h⟩ : nJ))) else some ((⟨i, 0, (⟨zS, zS⟩ : kI), b⟩ : Formula), (⟨h⟩ : nJ))))))
 | d :: g, a => (if (d.Op == i) then ((nE 72 a d.Kids).bind fun j => (ox i a0 g j)) else ((xw d (IntKind.i64.wrap (5 - i))).bind fun m => (if m then some ((⟨(IntKind.i64.wrap (5 - i)), 0, (⟨zS, zS⟩ : kI), []⟩ : Formula), a0) else ((nE 72 a ([d])).bind fun k => (ox i a0 g k)))))
def rE (a0 : nJ) (a : Int) (a2 : List Formula) : Option (Formula × nJ) :=
 ox a a0 a2 ([])
def oq  : List Formula → Int → (List Formula) → Option (Int × (List Formula))
 | [], b, a => some (b, a)
 | g :: d, b, a => ((xw g 2).bind fun i => (if i then (oq d (IntKind.i64.wrap (b - 1)) a) else ((xw g 3).bind fun j => (if (!j) then ((nE 72 a ([g])).bind fun h => (oq d b h)) else (oq d b a)))))
def oR (rec : nJ → Formula → Option (Formula × nJ)) (q : Formula) : List Formula → (List Formula) → nJ → Option (Formula × nJ)
 | [], g, a => (if (decide (q.Op < 4)) then ((rE a q.Op g).bind fun i => some (i.1, i.2)) else ((oq g q.K ([]) : Option (Int × (List Formula))).bind fun (d, b) => (if (decide (d ≤ 0)) then some ((⟨2, 0, (⟨zS, zS⟩ : kI), []⟩ : Formula), a) else (if (decide (d > (b.length : Int))) then some ((⟨3, 0, (⟨zS, zS⟩ : kI), []⟩ : Formula), a) else (if (d == (b.length : Int)) then ((rE a 2 b).bind fun j => some (j.1, j.2)) else (if (d == 1) then ((rE a 3 b).bind fun k => some (k.1, k.2)) else ((xC b false).bind fun n => some ((⟨4, d, (⟨zS, zS⟩ : kI), n⟩ : Formula), a))))))))
 | p :: l, g, a => ((rec a p).bind fun h => ((nE 72 g ([h.1])).bind fun m => (oR rec q l m h.2)))
def vR (rec : nJ → Formula → Option (Formula × nJ)) (a0 : nJ) (a : Formula) : Option (Formula × nJ) :=
 (if (a.Op == 1) then some (a, a0) else oR rec a a.Kids ([]) a0)
def pK : Nat → nJ → Formula → Option (Formula × nJ)
 | 0 => fun _ _ => none
 | n + 1 => vR (pK n)
def A0 (a0 : Formula) : Option (Formula × Int) :=
 ((sh a0).bind fun g => (if (!g) then some ((⟨0, 0, (⟨zS, zS⟩ : kI), []⟩ : Formula), 11) else ((pK lE (⟨false⟩ : nJ) a0).bind fun a => (((if a.2.RZ then some true else ((sh a.1).bind fun b => some (!b))) : Option Bool).bind fun d => (if d then some ((⟨0, 0, (⟨zS, zS⟩ : kI), []⟩ : Formula), 12) else some (a.1, 0))))))
def uO (n : kJ) : List nS → Int → Int → Int → kI → (List Formula) → Option (Int × Int × Int × kI × (List Formula))
 | [], d, g, h, i, b => some (d, g, h, i, b)
 | k :: j, d, g, h, i, b => (((if (d == 0) then ((CS k.nM n).bind fun l => some l) else some false) : Option Bool).bind fun m => (if m then ((A0 (⟨2, 0, (⟨zS, zS⟩ : kI), [(⟨g, h, i, b⟩ : Formula), k.kO]⟩ : Formula)).bind fun a => (uO n j a.2 ((a.1).Op) ((a.1).K) ((a.1).kI) ((a.1).Kids))) else (uO n j d g h i b)))
def yx (l : kJ) (a0 : lT) : List kY → Option (Formula × Int)
 | [] => some ((⟨0, 0, (⟨zS, zS⟩ : kI), []⟩ : Formula), 42)
 | b :: g => (if (!(lV b.Signed.kJ l)) then (yx l a0 g) else ((A0 b.kO).bind fun a => ((uO l a0.lC a.2 ((a.1).Op) ((a.1).K) ((a.1).kI) ((a.1).Kids) : Option (Int × Int × Int × kI × (List Formula))).bind fun (d, i, j, k, h) => (if (d != 0) then some ((⟨0, 0, (⟨zS, zS⟩ : kI), []⟩ : Formula), d) else some ((⟨i, j, k, h⟩ : Formula), 0)))))
def Eb (a0 : lT) (a : kJ) : Option (Formula × Int) :=
 yx a a0 a0.kR
def zO (d : kI) : List kI → Option Bool
 | [] => some false
 | b :: a => (if (lu b d) then some true else (zO d a))
def CH (a0 : List kI) (a : kI) : Option Bool :=
 zO a a0
def tJ (rec : Formula → (List kI) → Option Bool) (g : List kI) (a0 : Formula) : List Formula → Int → Option Bool
 | [], a => (if (a0.Op == 2) then some (a == (a0.Kids.length : Int)) else (if (a0.Op == 3) then some (decide (a > 0)) else some (decide (a ≥ a0.K))))
 | h :: b, a => ((rec h g).bind fun d => (if d then (tJ rec g a0 b (IntKind.i64.wrap (a + 1))) else (tJ rec g a0 b a)))
def AU (rec : Formula → (List kI) → Option Bool) (a0 : Formula) (a : List kI) : Option Bool :=
 (if (a0.Op == 1) then ((CH a a0.kI).bind fun b => some b) else tJ rec a a0 a0.Kids 0)
def vC : Nat → Formula → (List kI) → Option Bool
 | 0 => fun _ _ => none
 | n + 1 => AU (vC n)
def tI (a0 : lT) (h : List kI) : List kY → (List kJ) → Option (List kJ)
 | [], a => ((An a).bind fun k => some k)
 | g :: b, a => ((Eb a0 g.Signed.kJ).bind fun d => (((if (d.2 == 0) then ((vC lE d.1 h).bind fun j => some j) else some false) : Option Bool).bind fun l => (if l then ((nE 136 a ([g.Signed.kJ])).bind fun i => (tI a0 h b i)) else (tI a0 h b a))))
def zw (a0 : lT) (b : List kJ) (a2 : ByteArray) : Option (List kJ) :=
 ((xA b).bind fun d => ((uN d a2).bind fun a => tI a0 a a0.kR ([])))
def wC (a0 l : lT) : Nat → (List kJ) → (List kJ) → Int → Option ((List kJ) × (List kJ) × Int)
 | 0, _, _, _ => none
 | n296 + 1, a, b, h => ((zw a0 b l.Name).bind fun d => ((zw l a a0.Name).bind fun g => ((xl d a).bind fun i => (((if i then ((xl g b).bind fun j => some j) else some false) : Option Bool).bind fun k => (if k then some (a, b, h) else (wC a0 l n296 d g (IntKind.i64.wrap (h + 1))))))))
def Gy (a0 a : lT) : Option ((List kJ) × (List kJ) × Int) :=
 wC a0 a lE ([]) ([]) 0
def py (a0 : kJ) : Option kY :=
 ((E7 1 0 8).bind fun a => some (⟨(⟨a0, a⟩ : Signed), (⟨2, 0, (⟨zS, zS⟩ : kI), []⟩ : Formula)⟩ : kY))
def AJ (a0 d : lT) : Option ((List kJ) × (List (kI × (List (ByteArray × Bool)))) × (List kJ) × (List (kI × (List kJ))) × (List (ByteArray × (List kJ))) × (List lf) × Int × ByteArray) :=
 ((wG a0 d).bind fun b => ((xB b.2.1).bind fun a => some (b.2.1, a.1, a.2.1, a.2.2.1, a.2.2.2.1, a.2.2.2.2.1, a.2.2.2.2.2, d.Name)))
def wi (a0 : kI) (h : List (kI × (List (ByteArray × Bool)))) (a : List kJ) (g : List (kI × (List kJ))) (b : List (ByteArray × (List kJ))) (d : List lf) (j : Int) (i : ByteArray) (k : List kY) (l : List nS) : Option Bool :=
 ((ux h a g b d j a0 i).bind fun m => some m)
def qO (a0 b : lT) (a2 : Formula) : Option Bool :=
 ((AJ a0 b).bind fun a => ((vM a2 (fun (x : kI) => wi x a.2.1 a.2.2.1 a.2.2.2.1 a.2.2.2.2.1 a.2.2.2.2.2.1 a.2.2.2.2.2.2.1 a.2.2.2.2.2.2.2 b.kR b.lC)).bind fun d => some d))
def qo (a0 : mj) : Option Bool :=
 ((qO a0.kK a0.Client a0.Formula).bind fun a => some a)
def pj (a0 : mj) (a : Int) : Option Nat :=
 (if (a == 0) then some 0 else some 3)
def pw (a0 : List kY) (a a2 : Int) : Option (List kY) :=
 ((qZ (decide (0 ≤ a ∧ a ≤ a2 ∧ a2 ≤ (a0.length : Int) ∧ (a0.length : Int) ≤ (a0.length : Int)))).bind fun _ => (if (a == a2) then some a0 else ((qZ (decide (0 ≤ a) && decide (a ≤ (a0.length : Int)))).bind fun _ => ((qZ (decide (0 ≤ a2) && decide (a2 ≤ (a0.length : Int)))).bind fun _ => ((qZ (decide ((Int.toNat a) ≤ (Int.toNat a2) ∧ (Int.toNat a2) ≤ a0.length))).bind fun b => ((qZ (decide (0 ≤ ((a0.take (Int.toNat a) ++ a0.drop (Int.toNat a2)).length : Int) ∧ ((a0.take (Int.toNat a) ++ a0.drop (Int.toNat a2)).length : Int) ≤ (a0.length : Int) ∧ (a0.length : Int) = ((xZ a0 (Int.toNat a) (Int.toNat a2)).length : Int) ∧ ((a0.take (Int.toNat a) ++ a0.drop (Int.toNat a2)).length : Int) = ((a0.take (Int.toNat a) ++ a0.drop (Int.toNat a2)).length : Int)))).bind fun _ => some ((pa (xZ a0 (Int.toNat a) (Int.toNat a2)) (Int.toNat ((a0.take (Int.toNat a) ++ a0.drop (Int.toNat a2)).length : Int)) (⟨(⟨(⟨0, (⟨zS, zS⟩ : kI), zS, (⟨zS, zS⟩ : kI), (⟨zS, zS⟩ : kI), zS⟩ : kJ), []⟩ : Signed), (⟨0, 0, (⟨zS, zS⟩ : kI), []⟩ : Formula)⟩ : kY)).take (a0.take (Int.toNat a) ++ a0.drop (Int.toNat a2)).length)))))))
def sa (a0 : mj) (d a2 : Int) : Option mj :=
 (((if (decide (d < 0)) then some true else some (decide (d > 1))) : Option Bool).bind fun j => (if j then some a0 else ((pj a0 d).bind fun g => (if (g == 0) then (((if (decide (a2 < 0)) then some true else some (decide (a2 ≥ (a0.kK.kR.length : Int)))) : Option Bool).bind fun k => (if k then some a0 else ((pL a0.kK.kR).bind fun h => ((pw h a2 (IntKind.i64.wrap (a2 + 1))).bind fun i => some (⟨(⟨a0.kK.Name, i, a0.kK.lC⟩ : lT), (⟨a0.Client.Name, a0.Client.kR, a0.Client.lC⟩ : lT), (⟨a0.Formula.Op, a0.Formula.K, a0.Formula.kI, a0.Formula.Kids⟩ : Formula), a0.pQ, a0.mX, a0.nw, a0.oB, a0.nU, a0.Keys⟩ : mj))))) else (((if (decide (a2 < 0)) then some true else some (decide (a2 ≥ (a0.Client.kR.length : Int)))) : Option Bool).bind fun l => (if l then some a0 else ((pL a0.Client.kR).bind fun a => ((pw a a2 (IntKind.i64.wrap (a2 + 1))).bind fun b => some (⟨(⟨a0.kK.Name, a0.kK.kR, a0.kK.lC⟩ : lT), (⟨a0.Client.Name, b, a0.Client.lC⟩ : lT), (⟨a0.Formula.Op, a0.Formula.K, a0.Formula.kI, a0.Formula.Kids⟩ : Formula), a0.pQ, a0.mX, a0.nw, a0.oB, a0.nU, a0.Keys⟩ : mj)))))))))
def qG (a0 : mj) (d : Int) : List kY → Nat → (List mM) → Option (List mM)
 | [], _, b => some b
 | k :: g, a, b => ((sa a0 d (a : Int)).bind fun i => ((qo i).bind fun j => (if (!j) then ((nE 16 b ([(⟨d, (a : Int)⟩ : mM)])).bind fun h => (qG a0 d g (a + 1) h)) else (qG a0 d g (a + 1) b))))
def qD (a0 : mj) (d : Int) : List kY → Nat → (List mM) → Option (List mM)
 | [], _, b => some b
 | k :: g, a, b => ((sa a0 d (a : Int)).bind fun i => ((qo i).bind fun j => (if (!j) then ((nE 16 b ([(⟨d, (a : Int)⟩ : mM)])).bind fun h => (qD a0 d g (a + 1) h)) else (qD a0 d g (a + 1) b))))
def pO (a0 : mj) : Nat → (List mM) → Int → Option (List mM)
 | 0, _, _ => none
 | d + 1, b, a => (if (decide (a < 2)) then ((pj a0 a).bind fun i => (if (i == 0) then ((qG a0 a a0.kK.kR 0 b : Option (List mM)).bind fun g => (pO a0 d g (IntKind.i64.wrap (a + 1)))) else ((qD a0 a a0.Client.kR 0 b : Option (List mM)).bind fun h => (pO a0 d h (IntKind.i64.wrap (a + 1)))))) else some b)
def sT (a0 : mj) : Option (List mM) :=
 ((qo a0).bind fun a => (if (!a) then some [] else pO a0 lE ([]) 0))
def qF  : Nat → Int → ByteArray → (List kY) → (List nS) → ByteArray → (List kY) → (List nS) → Int → Int → kI → (List Formula) → Int → mM → Int → Int → Int → (List Key) → Option (ByteArray × (List kY) × (List nS) × ByteArray × (List kY) × (List nS) × Int × Int × kI × (List Formula) × Int × mM × Int × Int × Int × (List Key))
 | 0, _, _, _, _, _, _, _, _, _, _, _, _, _, _, _, _, _ => none
 | E + 1, k, l, b, d, m, g, h, n, p, q, i, r, s, t, u, v, j => (if (decide (k ≥ 0)) then ((((sa (⟨(⟨l, b, d⟩ : lT), (⟨m, g, h⟩ : lT), (⟨n, p, q, i⟩ : Formula), r, s, t, u, v, j⟩ : mj) 0 k).bind fun a => ((qo a).bind fun F => (if F then some ((((a).kK).Name), (((a).kK).kR), (((a).kK).lC), (((a).Client).Name), (((a).Client).kR), (((a).Client).lC), (((a).Formula).Op), (((a).Formula).K), (((a).Formula).kI), (((a).Formula).Kids), ((a).pQ), ((a).mX), ((a).nw), ((a).oB), ((a).nU), ((a).Keys)) else some (l, b, d, m, g, h, n, p, q, i, r, s, t, u, v, j)))) : Option (ByteArray × (List kY) × (List nS) × ByteArray × (List kY) × (List nS) × Int × Int × kI × (List Formula) × Int × mM × Int × Int × Int × (List Key))).bind fun (G, w, x, I, y, z, J, L, M, A, O, P, Q, R, T, D) => (qF E (IntKind.i64.wrap (k - 1)) G w x I y z J L M A O P Q R T D)) else some (l, b, d, m, g, h, n, p, q, i, r, s, t, u, v, j))
def qy  : Nat → Int → ByteArray → (List kY) → (List nS) → ByteArray → (List kY) → (List nS) → Int → Int → kI → (List Formula) → Int → mM → Int → Int → Int → (List Key) → Option (mj × Bool)
 | 0, _, _, _, _, _, _, _, _, _, _, _, _, _, _, _, _, _ => none
 | M + 1, v, k, b, d, l, g, h, m, n, p, i, q, r, s, t, u, j => (if (decide (v ≥ 0)) then ((((sa (⟨(⟨k, b, d⟩ : lT), (⟨l, g, h⟩ : lT), (⟨m, n, p, i⟩ : Formula), q, r, s, t, u, j⟩ : mj) 1 v).bind fun a => ((qo a).bind fun O => (if O then some ((((a).kK).Name), (((a).kK).kR), (((a).kK).lC), (((a).Client).Name), (((a).Client).kR), (((a).Client).lC), (((a).Formula).Op), (((a).Formula).K), (((a).Formula).kI), (((a).Formula).Kids), ((a).pQ), ((a).mX), ((a).nw), ((a).oB), ((a).nU), ((a).Keys)) else some (k, b, d, l, g, h, m, n, p, i, q, r, s, t, u, j)))) : Option (ByteArray × (List kY) × (List nS) × ByteArray × (List kY) × (List nS) × Int × Int × kI × (List Formula) × Int × mM × Int × Int × Int × (List Key))).bind fun (P, w, x, Q, y, z, R, T, U, A, W, Y, Z, a1, a6, D) => (qy M (IntKind.i64.wrap (v - 1)) P w x Q y z R T U A W Y Z a1 a6 D)) else ((pj (⟨(⟨k, b, d⟩ : lT), (⟨l, g, h⟩ : lT), (⟨m, n, p, i⟩ : Formula), q, r, s, t, u, j⟩ : mj) 0).bind fun aj => ((qF lE (IntKind.i64.wrap ((b.length : Int) - 1)) k b d l g h m n p i q r s t u j : Option (ByteArray × (List kY) × (List nS) × ByteArray × (List kY) × (List nS) × Int × Int × kI × (List Formula) × Int × mM × Int × Int × Int × (List Key))).bind fun (a7, E, F, a8, G, I, aa, ab, ad, J, ae, af, ag, ah, ai, L) => some ((⟨(⟨a7, E, F⟩ : lT), (⟨a8, G, I⟩ : lT), (⟨aa, ab, ad, J⟩ : Formula), ae, af, ag, ah, ai, L⟩ : mj), true))))
def uq (a0 : mj) : Option (mj × Bool) :=
 ((qo a0).bind fun a => (if (!a) then some (a0, false) else ((pj a0 1).bind fun b => qy lE (IntKind.i64.wrap ((a0.Client.kR.length : Int) - 1)) a0.kK.Name a0.kK.kR a0.kK.lC a0.Client.Name a0.Client.kR a0.Client.lC a0.Formula.Op a0.Formula.K a0.Formula.kI a0.Formula.Kids a0.pQ a0.mX a0.nw a0.oB a0.nU a0.Keys)))
def tN (a0 : mj) : Option Int :=
 ((wG a0.kK a0.Client).bind fun a => some (IntKind.i64.wrap ((a.1.length : Int) + (a.2.1.length : Int))))
def wA  : Option Bool :=
 ((((py (⟨1, (⟨(⟨#[120]⟩ : ByteArray), (⟨#[121]⟩ : ByteArray)⟩ : kI), (⟨#[99, 108, 105]⟩ : ByteArray), (⟨zS, zS⟩ : kI), (⟨zS, zS⟩ : kI), zS⟩ : kJ)).bind fun z => ((py (⟨1, (⟨(⟨(⟨#[120]⟩ : ByteArray), (⟨#[121]⟩ : ByteArray)⟩ : kI).kK, (⟨#[122]⟩ : ByteArray)⟩ : kI), (⟨#[99, 108, 105]⟩ : ByteArray), (⟨zS, zS⟩ : kI), (⟨zS, zS⟩ : kI), zS⟩ : kJ)).bind fun A => some ((⟨#[111, 119, 110]⟩ : ByteArray), ([]), ([]), (⟨#[99, 108, 105]⟩ : ByteArray), ([z, A]), ([]), 1, 0, (⟨(⟨#[120]⟩ : ByteArray), (⟨#[121]⟩ : ByteArray)⟩ : kI), ([]), 0, (⟨0, 0⟩ : mM), 0, 0, 0, ([]), zS, ([]), ([]), zS, ([]), ([]), 0, 0, (⟨zS, zS⟩ : kI), ([]), 0, (⟨0, 0⟩ : mM), 0, 0, 0, ([])))) : Option (ByteArray × (List kY) × (List nS) × ByteArray × (List kY) × (List nS) × Int × Int × kI × (List Formula) × Int × mM × Int × Int × Int × (List Key) × ByteArray × (List kY) × (List nS) × ByteArray × (List kY) × (List nS) × Int × Int × kI × (List Formula) × Int × mM × Int × Int × Int × (List Key))).bind fun (k, a, b, l, d, g, m, n, p, h, q, r, s, t, u, i, Y, P, Q, Z, R, T, a1, a6, a7, U, a8, aa, ab, ad, ae, W) => ((sT (⟨(⟨k, a, b⟩ : lT), (⟨l, d, g⟩ : lT), (⟨m, n, p, h⟩ : Formula), q, r, s, t, u, i⟩ : mj)).bind fun v => ((uq (⟨(⟨k, a, b⟩ : lT), (⟨l, d, g⟩ : lT), (⟨m, n, p, h⟩ : Formula), q, r, s, t, u, i⟩ : mj)).bind fun j => (((if ((v.length : Int) == 1) then ((mF v 0).bind fun O => some (ze O (⟨1, 0⟩ : mM))) else some false) : Option Bool).bind fun D => (((if D then some j.2 else some false) : Option Bool).bind fun E => (((if E then some (((((j.1).Client).kR).length : Int) == 1) else some false) : Option Bool).bind fun F => (((if F then ((mF (((j.1).Client).kR) 0).bind fun M => some (lV M.Signed.kJ (⟨1, (⟨(⟨#[120]⟩ : ByteArray), (⟨#[121]⟩ : ByteArray)⟩ : kI), (⟨#[99, 108, 105]⟩ : ByteArray), (⟨zS, zS⟩ : kI), (⟨zS, zS⟩ : kI), zS⟩ : kJ))) else some false) : Option Bool).bind fun G => (((if G then ((tN (⟨(⟨k, a, b⟩ : lT), (⟨l, d, g⟩ : lT), (⟨m, n, p, h⟩ : Formula), q, r, s, t, u, i⟩ : mj)).bind fun y => some (y == 2)) else some false) : Option Bool).bind fun I => (((if I then ((tN j.1).bind fun x => some (x == 1)) else some false) : Option Bool).bind fun J => (((if J then ((sa (⟨(⟨k, a, b⟩ : lT), (⟨l, d, g⟩ : lT), (⟨m, n, p, h⟩ : Formula), q, r, s, t, u, i⟩ : mj) 1 0).bind fun w => some (((((w).Client).kR).length : Int) == 1)) else some false) : Option Bool).bind fun L => some L))))))))))
def Eh (a0 g : lT) : Option (List kI) :=
 ((Gy a0 g).bind fun a => ((xA a.2.1).bind fun b => ((uN b g.Name).bind fun d => some d)))
def zU (a0 h : lT) (a2 : Formula) : Option Bool :=
 ((sh a2).bind fun g => (((if g then ((Eh a0 h).bind fun a => ((vC lE a2 a).bind fun b => some b)) else some false) : Option Bool).bind fun d => some d))
def Dp (a0 : mj) : Option Bool :=
 ((zU a0.kK a0.Client a0.Formula).bind fun a => some a)
def pe (a0 : mj) (g h : List (kJ × Bool)) : List mM → Option (Bool ⊕ Unit)
 | [] => some (Sum.inr ())
 | a :: d => (((if (a.qu == 1) then some a0.Client.kR else some a0.kK.kR) : Option (List kY)).bind fun b => (((if (decide (a.qv < 0)) then some true else some (decide (a.qv ≥ (b.length : Int)))) : Option Bool).bind fun i => (((if i then some true else (if ((IntKind.i64.wrap (BitVec.ofInt (IntKind.bits .i64) a.qu &&& BitVec.ofInt (IntKind.bits .i64) 1).toNat) == 0) then ((mF b a.qv).bind fun k => some (!(wX lV g k.Signed.kJ false))) else (if ((IntKind.i64.wrap (BitVec.ofInt (IntKind.bits .i64) a.qu &&& BitVec.ofInt (IntKind.bits .i64) 1).toNat) == 1) then ((mF b a.qv).bind fun l => some (!(wX lV h l.Signed.kJ false))) else none))) : Option Bool).bind fun j => (if j then some (Sum.inl false) else (pe a0 g h d)))))
def pZ  : List kY → (List (kJ × Bool)) → Option (List (kJ × Bool))
 | [], a => some a
 | d :: b, a => (pZ b (oy lV a d.Signed.kJ true))
def pY (a : (mj × Bool)) (a0 : mj) : List kY → (List (kJ × Bool)) → Option Bool
 | [], b => ((pZ (((a.1).Client).kR) ([]) : Option (List (kJ × Bool))).bind fun k => ((sT a0).bind fun l => ((pe a0 b k l : Option (Bool ⊕ Unit)).bind fun s => match s with | .inl d => some d | .inr _ => ((qO ((a.1).kK) ((a.1).Client) ((a.1).Formula)).bind fun g => (((if g then ((sT a.1).bind fun h => some ((h.length : Int) == (IntKind.i64.wrap (((((a.1).kK).kR).length : Int) + ((((a.1).Client).kR).length : Int))))) else some false) : Option Bool).bind fun i => some i)))))
 | m :: j, b => (pY a a0 j (oy lV b m.Signed.kJ true))
def uZ (a0 : mj) : Option Bool :=
 (wA.bind fun b => (if (!b) then some false else ((yz a0).bind fun d => (if (decide (d > 4000)) then some true else ((uq a0).bind fun a => (if (!a.2) then ((qO a0.kK a0.Client a0.Formula).bind fun g => some (!g)) else pY a a0 (((a.1).kK).kR) ([])))))))
end
end Go.Proofs.YtmlncblocfcmiaaGreat
