/- a part of a proof of LeastShrinks -/
import Derived.Test.YtklbhegeiijbjaaGreatRtUn
import Derived.Laws.IdiomStrings
import Derived.Laws.MakeOwn
import Derived.Shelf.SlSortCmp.NoneTotal
import Derived.Shelf.SortM.Plain
import Derived.Shelf.SortM.SortNone
import Derived.Shelf.SlIter.Sorted
import Derived.Shelf.SlIter.Nil
import Derived.Test.YtklbhegeiijbjaaGreatProg
import Derived.KernelRfl
set_option linter.all false
namespace Go.Proofs.YtklbhegeiijbjaaGreat
open Go.RowKit
section
variable {P : Program} {E : Nat → Value} {W : World} {d : Option Nat} {ty : TypeId} {pos : String} {af : Array Edge} {g : Option (Nat × Bool)}
 {dd : Bool} {F : Nat → Prop} {w : World} {μ : lO} {L : List (Nat × Obj)}
def Fg {α : Type} (a : Nat) (z : α) (n : Int) : Option (List α) := if 0 ≤ n ∧ (a : Int) * n ≤ 140737488355328 ∧ n ≤ (maxLen : Int) then some (List.replicate n.toNat z) else none
theorem Im {α : Type} {enc : α → List Value} {k : Nat} (hk : ∀ x, (enc x).length = k) (a : 0 < k) (z : α) (n : Nat) : (madeCells (enc z).toArray (n * k)).toList = ((List.replicate n z).map enc).flatten := by
 apply List.ext_getElem
 ·rw [pJ hk, dH, size_madeCells]; simp
 ·intro i h1 h
  rw [dH, size_madeCells] at h1
  have j : i / k < n := by rw [jo a]; exact h1
  have d : i % k < (enc z).length := by rw [hk]; exact Nat.mod_lt _ a
  have b := xI hk (List.replicate n z) (i / k) z (by rw [List.getElem?_replicate, aY j]) (i % k) _ (dB d)
  rw [show i / k * k + i % k = i by rw [Nat.mul_comm]; exact Nat.div_add_mod i k] at b
  rw [dB h] at b
  have g := jy b
  rw [g]
  simp only [madeCells, Array.getElem_toList, Array.getElem_map, Array.getElem_range, dV, hk]
  rw [getElem!_pos _ _ (by simpa using d)]
  simp
theorem KQ {K : Value → World → Prop} {α : Type} {e t : TypeId} {enc : α → List Value} {k a : Nat} {b : Value} {n : Int} {l : IntKind} {z : α} {r : List α} {x y : Operand} {i : TypeInfo} (m : ST dd F w W μ L) (hk : ∀ x, (enc x).length = k) (s : 0 < k) (O : P.underlying t = some (.slice e)) (J : P.info? e = some i) (T : i.zero = some b) (u : i.size = k) (q : i.bytes = a) (I : b.cells = (enc z).toArray) (Q : kU E x = .int l n) (R : kU E y = .int l n) (j : Fg a z n = some r) (h : ∀ W' v R', ST dd F w W' μ (R' ++ L) → lA e enc k v r R' → K v W') : ou P E ⟨d, .makeSlice t x y, ty, pos, af, g⟩ W K := by
 unfold Fg at j
 split at j
 case isFalse => cases j
 rename_i p
 cases j
 obtain ⟨A, h1, D⟩ := p
 subst u; subst q
 have G : n.toNat ≤ maxLen := by omega
 have M := run_make (P := P) W t e i b O J T l l n n A (Int.le_refl _) (by omega) (by simp only [maxLen] at D; omega)
 refine .inl ⟨.slice (some ⟨W.heap.size, 0, none⟩) n.toNat n.toNat, W.alloc (.cells (madeCells b.cells (n.toNat * i.size)) e), ?_, h _ _ [(W.heap.size, .cells (madeCells b.cells (n.toNat * i.size)) e)] (m.alloc _) ?_⟩
 ·show (do pure (.value (← Instr.makeSlice t (kU E x) (kU E y))) : Sem Next).run P W = _
  rw [Q, R]
  simp only [cK, M, bQ, dF]
 ·exact lA.lit (by rw [List.length_replicate]) G (by rw [I]; exact Im hk s z _) (by rw [size_madeCells])
end
theorem sI.Bp {κ γ : Type} {kenc : κ → Value} {Q : Value → γ → List (Nat × Obj) → Prop} {μ : lO} {v : Value} {l : List (κ × γ)} (h : sI kenc Q μ v l) : v.oneCell' = true := by
 obtain ⟨a, R, h, _⟩ := h
 obtain ⟨m, rfl⟩ := h.form
 rfl
theorem xm.Bp {κ β : Type} {kenc : κ → Value} {vf : β → Value} {μ : lO} {v : Value} {l : List (κ × β)} (h : xm kenc vf μ v l) : v.oneCell' = true := by
 obtain ⟨m, rfl⟩ := h.form
 rfl
end Go.Proofs.YtklbhegeiijbjaaGreat
namespace Go.Proofs.YtklbhegeiijbjaaGreat
open Go.RowKit
section
variable {dd : Bool}
def B7 {α : Type} (R : rq α) : lO → List Value → α → Prop := fun μ vs x => ∃ ys, vs = [.agg ys.toArray] ∧ R μ ys x
def wv {α β : Type} (R : rq α) (S : rq β) : lO → List Value → α × β → Prop := fun μ vs x => ∃ ys zs, vs = [.agg ys.toArray, .agg zs.toArray] ∧ R μ ys x.1 ∧ S μ zs x.2
theorem B7.mk {α : Type} {R : rq α} {k : Nat} {μ μ' : lO} {ys : List Value} {x : α} (a : Deep R k) (h : R μ ys x) (b : lm μ μ') : B7 R μ' [.agg ys.toArray] x := ⟨ys, rfl, a.mono _ _ _ _ b h⟩
theorem wv.mk {α β : Type} {R : rq α} {S : rq β} {k m : Nat} {μ μ' : lO} {ys zs : List Value} {x : α} {y : β} (d : Deep R k) (g : Deep S m) (h : R μ ys x) (b : S μ zs y) (a : lm μ μ') : wv R S μ' [.agg ys.toArray, .agg zs.toArray] (x, y) :=
 ⟨ys, zs, rfl, d.mono _ _ _ _ a h, g.mono _ _ _ _ a b⟩
def yy {α β : Type} (P : Program) (fv : Value) (μ : lO) (a : lO → List Value → α → Prop) (b : β → Value) (pm : α → Option β) : Prop :=
 ∃ f first caps, fv = .func (.func f) first caps ∧ (∀ args w, (callFunc f args).run P w = .ok (.enter f args) w) ∧ ∀ W x vs r, lm μ (hp W) → a (hp W) vs x → pm x = some r → lD false P f (first.toList ++ (vs ++ caps.toList)) W (b r)
theorem yy.form {α β : Type} {P : Program} {fv : Value} {μ : lO} {d : lO → List Value → α → Prop} {g : β → Value} {pm : α → Option β} (h : yy P fv μ d g pm) : ∃ f a b, fv = .func f a b := let ⟨f, a, b, h, _⟩ := h; ⟨_, a, b, h⟩
end
section
variable {P : Program} {W : World} {E : Nat → Value} {d : Option Nat} {ty : TypeId} {pos : String} {af : Array Edge} {g : Option (Nat × Bool)} {F : Nat → Prop} {w : World} {μ μ0 : lO} {L : List (Nat × Obj)}
theorem yy.mono {α β : Type} {fv : Value} {a : lO → List Value → α → Prop} {b : β → Value} {pm : α → Option β} (h : yy P fv μ a b pm) (i : lm μ μ0) : yy P fv μ0 a b pm := by
 obtain ⟨f, first, caps, h1, d, g⟩ := h
 exact ⟨f, first, caps, h1, d, fun W x vs r h => g W x vs r (i.trans h)⟩
theorem zH {α β : Type} {K : Value → World → Prop} {fv : Value} {j : lO → List Value → α → Prop} {k : β → Value} {pm : α → Option β} {b : Operand} {ax : Array Operand} {ats : Array TypeId} (x : α) {vs : List Value} {r : β} (a : ST false F w W μ L) (s : yy P fv μ0 j k pm) (u : lm μ0 μ) (q : j (hp W) vs x) (t : kU E b = fv) (ha : ax.map (kU E) ++ (#[] : Array Value) = vs.toArray) (hm : pm x = some r) (h : ∀ W', ST false F w W' μ L → K (k r) W') : ou P E ⟨d, .call ⟨.value b, ax, ats⟩, ty, pos, af, g⟩ W K := by
 obtain ⟨f, first, caps, rfl, l, m⟩ := s
 have i : ax.map (kU E) = vs.toArray := by simpa using ha
 refine .inr (.inr ⟨f, (first.toList ++ (vs ++ caps.toList)).toArray, ?_, dY (m W x vs r (u.trans a.kN) q hm) (fun _ _ ⟨n, p⟩ => ⟨_, n, h _ (a.Jr p)⟩)⟩)
 show (do let d ← resolve (kU E) ⟨.value b, ax, ats⟩ ty; invoke d.target d.args : Sem Next).run P W = _
 simp only [resolve, t, Deferred.ofValue, cK, dF, bQ, invoke, i, l]
 congr 2
 simp
end
section
variable {dd : Bool}
variable {β : Type} {Rl : rq β} {k : Nat} {μ : lO} {v : Value} {l : List β} {e : TypeId} {B : List (Nat × Obj)}
variable {F : Nat → Prop} {w W : World} {L : List (Nat × Obj)}
variable {P : Program} {E : Nat → Value} {d : Option Nat} {ty : TypeId} {pos : String} {af : Array Edge} {g : Option (Nat × Bool)}
theorem JS {α : Type} {enc : α → List Value} (hk : ∀ x, (enc x).length = k) (d : 0 < k) (g : ∀ x y, enc x = enc y → x = y) : ∀ {l m : List α}, (l.map enc).flatten = (m.map enc).flatten → l = m
 | [], [], _ => rfl
 | [], b :: m, h => by
  have := bM List.length h
  simp only [gF, dK, bU, bP, bR, aF, hk] at this
  omega
 | a :: l, [], h => by
  have := bM List.length h
  simp only [gF, dK, bU, bP, bR, aF, hk] at this
  omega
 | a :: l, b :: m, h => by
  simp only [bP, bR] at h
  obtain ⟨h1, i⟩ := List.append_inj h (by rw [hk, hk])
  rw [g _ _ h1, JS hk d g i]
theorem T8 (x y : xV k) (h : wi x = wi y) : x = y := Subtype.ext h
theorem lA.pre {v1 : Value} {cl a : List (xV k)} (g : 0 < k) (h : lA e wi k v cl B) (h1 : lA e wi k v1 a B) (d : a.length ≤ cl.length) : a = cl.take a.length := by
 rcases h with ⟨rfl, rfl, rfl⟩ | ⟨r, cap, b, rfl, rfl, s, t, u, p⟩
 ·simp at d; simp [d]
 ·rcases h1 with ⟨_, _, h⟩ | ⟨g1, i, j, rfl, l, q, a2, a3, a4⟩
  ·cases h
  ·cases l
   refine JS yW g T8 ?_
   rw [← a4]
   have hle : a.length * k ≤ cl.length * k := cI _ d
   have : b.toList.take (a.length * k) = (b.toList.take (cl.length * k)).take (a.length * k) := by rw [iB, dD hle]
   rw [this, p]
   have m : (cl.map wi).flatten = ((cl.take a.length).map wi).flatten ++ ((cl.drop a.length).map wi).flatten := by rw [← cT, ← cL, fX]
   have n : ((cl.take a.length).map wi).flatten.length = a.length * k := by rw [pJ yW, cQ, dD d]
   rw [m, ← n, jh]
theorem pR.replicate {α β : Type} {Q : α → β → Prop} {a : α} {b : β} (h : Q a b) : ∀ n, pR Q (List.replicate n a) (List.replicate n b)
 | 0 => .nil
 | n + 1 => .cons h (pR.replicate h n)
theorem pR.T7 {α β : Type} {Q : α → β → Prop} {l : List α} {m : List β} (h : pR Q l m) {a : α} {b : β} (d : Q a b) (i : Nat) : pR Q (ph l i a) (ph m i b) := by
 unfold ph
 rw [h.length]
 exact (h.take i).append (pR.replicate d _)
theorem Bo {t e' : TypeId} {x ih : Operand} {u : IntKind} {i : Int} (r : P.underlying t = some (.slice e')) (he : ∀ w, (sizeOf e').run P w = .ok k w) (s : kU E x = v) (p : kU E ih = .int u i) (h : lW e Rl k μ v l B) (j : 0 ≤ i) (q : i ≤ l.length) :
  ∃ a, lW e Rl k μ a (l.take i.toNat) B ∧ ∀ W, ng P E ⟨d, .slice t x none (some ih) none, ty, pos, af, g⟩ W a W := by
 obtain ⟨cl, h1, b⟩ := h
 obtain ⟨a, m, n⟩ := EL (d := d) (ty := ty) (pos := pos) (af := af) (g := g) r he s p h1 yW j (by rw [b.length]; exact q)
 exact ⟨a, ⟨_, m, b.take _⟩, n⟩
theorem zG {t e' : TypeId} {x a : Operand} {r : IntKind} {i : Int} (p : P.underlying t = some (.slice e')) (he : ∀ w, (sizeOf e').run P w = .ok k w) (q : kU E x = v) (m : kU E a = .int r i) (h : lW e Rl k μ v l B) (b : 0 ≤ i) (n : i ≤ l.length) :
  ∃ u, xo k v i.toNat u ∧ ∀ W, ng P E ⟨d, .slice t x (some a) none none, ty, pos, af, g⟩ W u W := by
 obtain ⟨cl, h1, j⟩ := h
 exact Az p he q m h1 b (by rw [j.length]; exact n)
theorem MC {t e' : TypeId} {x : Operand} {u : Value} {i : Nat} (b : P.underlying t = some (.slice e')) (j : kU E x = u) (hu : xo k v i u) (h : lW e Rl k μ v l B) : ng P E ⟨d, .call ⟨.builtin .len, #[x], #[t]⟩, ty, pos, af, g⟩ W (.int .i64 ((l.length - i : Nat) : Int)) W := by
 obtain ⟨cl, h1, a⟩ := h
 rw [← a.length]
 exact IG b j hu h1
theorem BU {t e' : TypeId} {x j : Operand} {G : IntKind} {i : Int} {x0 : β} {u : Value} {o : Nat} {A : List Value → Prop} (y : ∀ {ys}, Rl μ ys x0 → A ys) (D : P.underlying t = some (.slice e')) (he : ∀ w, (sizeOf e').run P w = .ok k w) (F : kU E x = u) (r : kU E j = .int G i) (h : lW e Rl k μ v l B) (hu : xo k v o u) (m : 0 ≤ i) (s : (l.drop o)[i.toNat]? = some x0) :
  ∃ p, (∃ ys, A ys ∧ At (CV B) p ys ∧ BE B k p (o + i.toNat)) ∧ ∀ W, ng P E ⟨d, .indexAddr t x j, ty, pos, af, g⟩ W p W := by
 obtain ⟨cl, h1, n⟩ := h
 obtain ⟨c, b, z⟩ := (n.drop o).get s
 obtain ⟨p, a, q⟩ := AJ (d := d) (ty := ty) (pos := pos) (af := af) (g := g) D he F r h1 hu m b
 exact ⟨p, ⟨c.1, y z, a.at h1 yW (B0 b), a⟩, q⟩
theorem BH {K : Value → World → Prop} {z : β} {zs : List Value} {Y : List (Nat × Obj)} {t e' : TypeId} {x : Operand} {u j : Value} {i : Nat} (p : Deep Rl k) (b : ST dd F w W μ (B ++ Y)) (h : lW e Rl k μ v l B) (a : Rl μ zs z) (s : P.underlying t = some (.slice e')) (A : ∀ w, (zeroValue e').run P w = .ok j w) (hu : xo k v i u) (r : j.cells = zs.toArray) (y : kU E x = u) (q : ∀ W' R', ST dd F w W' μ (R' ++ Y) → lW e Rl k μ v (ph l i z) R' → K (.tuple #[]) W') : ou P E ⟨d, .call ⟨.builtin .clear, #[x], #[t]⟩, ty, pos, af, g⟩ W K := by
 obtain ⟨cl, h1, n⟩ := h
 exact CZ (p.cell a) b h1 yW ML s A hu r y (fun W' R' m a2 => q W' R' m ⟨_, a2, n.T7 a i⟩)
theorem pR.Uc {α β : Type} {Q : α → β → Prop} {l : List α} {m : List β} (h : pR Q l m) (i j : Nat) : pR Q (yt l i j) (yt m i j) := by
 unfold yt
 rw [h.length]
 exact ((h.take i).append (h.drop j)).append (h.drop _)
theorem I4 {K : Value → World → Prop} {Y : List (Nat × Obj)} {t : TypeId} {x y : Operand} {i j : Nat} {v1 u : Value} {D : TypeInfo} (p : ST dd F w W μ (B ++ Y)) (h : lW e Rl k μ v l B) (h1 : lW e Rl k μ v1 (l.take i) B) (m : 0 < k) (O : P.underlying t = some (.slice e)) (L : P.info? e = some D) (r : D.size = k) (q : i ≤ j) (M : j ≤ l.length) (hu : xo k v j u) (Q : kU E x = v1) (R : kU E y = u) (J : ∀ W' n R', ST dd F w W' μ (R' ++ Y) → lW e Rl k μ v (yt l i j) R' → lW e Rl k μ n (l.take i ++ l.drop j) R' → K n W') : ou P E ⟨d, .call ⟨.builtin .append, #[x, y], #[t, t]⟩, ty, pos, af, g⟩ W K := by
 obtain ⟨cl, a, b⟩ := h
 obtain ⟨c1, A, I⟩ := h1
 have s : c1.length = i := by rw [I.length, cQ]; omega
 have z := lA.pre m a A (by rw [s, b.length]; omega)
 rw [s] at z
 subst z
 exact J3 p a A yW m ML O L r q (by rw [b.length]; exact M) hu Q R (fun W' n R' G a2 a3 => J W' n R' G ⟨_, a2, b.Uc i j⟩ ⟨_, a3, (b.take i).append (b.drop j)⟩)
theorem MD {p : List β} {q : Value} {t : TypeId} {x n ih : Operand} {F m : IntKind} {a b : Int} (A : P.underlying t = some (.slice e)) (he : ∀ w, (sizeOf e).run P w = .ok k w) (j : 0 < k) (r : lW e Rl k μ v l B) (h1 : lW e Rl k μ q p B) (D : kU E x = q) (z : kU E n = .int F a) (y : kU E ih = .int m b) (ha : 0 ≤ a) (i : a ≤ b) (s : b = (l.length : Int)) (h : a = (p.length : Int)) : ∃ u, xo k v a.toNat u ∧ ∀ W, ng P E ⟨d, .slice t x (some n) (some ih) none, ty, pos, af, g⟩ W u W := by
 obtain ⟨cl, G, I⟩ := r
 obtain ⟨c1, J, L⟩ := h1
 exact N1 A he j G J D z y ha i (by rw [I.length]; exact s) (by rw [L.length]; exact h)
theorem N5 {t : TypeId} {x p ih q : Operand} {F j n : IntKind} {a b m : Int} (A : P.underlying t = some (.slice e)) (he : ∀ w, (sizeOf e).run P w = .ok k w) (r : lW e Rl k μ v l B) (D : kU E x = v) (z : kU E p = .int F a) (y : kU E ih = .int j b) (hm : kU E q = .int n m) (ha : 0 ≤ a) (h : a ≤ b) (s : b ≤ m) (i : m ≤ (l.length : Int)) : ∃ u, True ∧ ∀ W, ng P E ⟨d, .slice t x (some p) (some ih) (some q), ty, pos, af, g⟩ W u W := by
 obtain ⟨cl, G, I⟩ := r
 exact ON A he G D z y hm ha h s (by rw [I.length]; exact i)
theorem lW.OQ {b d : List β} {i : Value} {R2 : List (Nat × Obj)} (a : 0 < k) (j : lW e Rl k μ v l B) (h1 : lW e Rl k μ i d B) (m : lW e Rl k μ v b R2) (n : d.length ≤ b.length) : lW e Rl k μ i (b.take d.length) R2 := by
 obtain ⟨cl, p, s⟩ := j
 obtain ⟨c1, q, g⟩ := h1
 obtain ⟨c2, r, h⟩ := m
 refine ⟨_, lA.OQ a yW p q r (by rw [g.length, h.length]; exact n), ?_⟩
 rw [g.length]
 exact h.take _
end
section
variable {P : Program} {W : World} {E : Nat → Value} {d : Option Nat} {ty : TypeId} {pos : String} {af : Array Edge} {g : Option (Nat × Bool)}
theorem OF {i n : TypeId} {x y : Operand} {fv : Value} {s u : Array TypeId} {bb : Bool} (k : P.underlying i = some (.func s u bb)) (h : ∃ f a b, fv = .func f a b) (l : kU E x = fv) (m : kU E y = .nilFunc) :
  ng P E ⟨d, .binOp .neq i x y n, ty, pos, af, g⟩ W (.bool true) W := by
 obtain ⟨f, a, b, rfl⟩ := h
 show (do let r ← (do eqGuard .neq i x y (kU E x) (kU E y); binOp .neq i (kU E x) (kU E y)); pure (.value r) : Sem Next).run P W = _
 rw [l, m]
 have j := Gg 9999 k f a b W
 simp [eqGuard, binOp, Op.equal, show Op.maxDepth = 9999 + 1 from rfl, j]
end
end Go.Proofs.YtklbhegeiijbjaaGreat
namespace Go.Proofs.YtklbhegeiijbjaaGreat
open Go.RowKit
theorem bS {α β : Type} {m : Option α} {f : α → Option β} {r : β} {G : Prop} (h : m.bind f = some r) (k : ∀ x, m = some x → f x = some r → G) : G :=
 let ⟨x, a, b⟩ := bind_some h
 k x a b
theorem sj {α : Type} {a b : α} (h : some a = some b) : a = b := jy h
theorem bC {α : Type} {b : Bool} {x y r : α} {G : Prop} (h : (if b = true then x else y) = r) (a : b = true → x = r → G) (d : b = false → y = r → G) : G := by
 rcases Nh b with e | e
 ·exact a e (MT e h)
 ·exact d e (MW e h)
theorem cB {a b : Bool} (h : a = b) : Value.bool a = Value.bool b := bM Value.bool h
theorem nb {a b : Nat} (h : Nat.ble a b = true := by exact rfl) : a ≤ b := Nat.le_of_ble_eq_true h
def TJ : Nat → Nat → List Bool
 | 0, _ => []
 | n + 1, m => (m % 2 == 1) :: TJ n (m / 2)
def bm (n m : Nat) : Array Bool := (TJ n m).toArray
section
variable {P : Program} {n : Nat} {Q : qG} {E : Nat → Value} {W : World}
theorem CI {α : Type} {co : Operand} {b : Bool} {x y : Code} {A B r : α} (hm : (if b = true then A else B) = r) (a : kU E co = .bool b) (g : b = true → A = r → CW P n x Q E W) (d : b = false → B = r → CW P n y Q E W) : CW P n (.cond co x y) Q E W :=
 MU a (fun e => g e (MT e hm)) (fun e => d e (MW e hm))
theorem CJ {d ρ : Type} {m : Option d} {k : d → Option ρ} {r : ρ} {x : Code} {K : (Nat → Value) → World → Prop} (hm : m.bind k = some r) (I : d → (Nat → Value) → World → Prop) (h1 : ∀ s, m = some s → CW P n x (qX (I s) Q) E W) (g : ∀ s E W, I s E W → k s = some r → K E W) : CW P n x (qX K Q) E W :=
 let ⟨s, a, b⟩ := bind_some hm
 Og (I s) (h1 s a) (fun E W h => g s E W h b)
theorem Sg {g ρ d : Type} {m : Option (d ⊕ g)} {k : d ⊕ g → Option ρ} {r : ρ} {x : Code} {K : (Nat → Value) → World → Prop} (hm : m.bind k = some r) (I : g → (Nat → Value) → World → Prop) (h1 : ∀ s, m = some s → k s = some r → CW P n x (qX (fun E W => ∃ t, s = .inr t ∧ I t E W) Q) E W) (i : ∀ s E W, I s E W → k (.inr s) = some r → K E W) : CW P n x (qX K Q) E W :=
 let ⟨s, a, b⟩ := bind_some hm
 Og (fun E W => ∃ t, s = .inr t ∧ I t E W) (h1 s a b) (fun E W ⟨t, e, h⟩ => i t E W h (by subst e; exact b))
theorem LJ {d ρ : Type} {m : Option d} {k : d → Option ρ} {r : ρ} {ops : Array Oper} {rest : List Oper} (hm : m.bind k = some r) (I : d → (Nat → Value) → World → Prop) (j : Nat) (g : ∀ s E W, I s E W → k s = some r → LW P n ops Q (rest.drop j) E W) (h1 : ∀ s, m = some s → (∀ E W, I s E W → LW P n ops Q (rest.drop j) E W) → LW P n ops Q rest E W) : LW P n ops Q rest E W :=
 let ⟨s, a, b⟩ := bind_some hm
 h1 s a (fun E W h => g s E W h b)
theorem PJ {d ρ : Type} {m : Option d} {k : d → Option ρ} {r : ρ} {ops : Array Oper} {S : Array Bool → World → Prop} {fuel : Nat} {listed : Array Bool} (hm : m.bind k = some r) (I : d → (Nat → Value) → World → Prop) (i : Array Bool) (g : Nat) (j : ∀ s E W, I s E W → k s = some r → PX P n ops Q S g i E W) (h1 : ∀ s, m = some s → (∀ E W, I s E W → PX P n ops Q S g i E W) → PX P n ops Q S fuel listed E W) : PX P n ops Q S fuel listed E W :=
 let ⟨s, a, b⟩ := bind_some hm
 h1 s a (fun E W h => j s E W h b)
end
section
variable {dd : Bool} {P : Program} {fn : Func} {E : Nat → Value} {W w : World} {μ : lO} {L : List (Nat × Obj)}
theorem rP {t : Tmp} {v : Value} (a : ST dd lT w W μ L) (b : fn.results = #[.tmp t] := by exact rfl) (d : E t = v := by exact rfl) : yZ P fn (fun e W' => e = .returned v ∧ Ex dd w W') .ret E W := mI b d ⟨rfl, a.ex⟩
end
theorem ST.Bg {dd : Bool} {F : Nat → Prop} {w W : World} {μ : lO} {x : Nat × Obj} {L : List (Nat × Obj)} (h : ST dd F w W μ (x :: L)) : ST dd F w W μ ([x] ++ L) := h
theorem ST.Pc {dd : Bool} {F : Nat → Prop} {w W : World} {μ : lO} {L : List (Nat × Obj)} (h : ST dd F w W μ L) : ST dd F w W μ ([] ++ L) := h
theorem aL {E : Nat → Value} {ax : Array Operand} {l : List Value} (h : ax.toList.map (kU E) = l) : ax.map (kU E) ++ (#[] : Array Value) = l.toArray := by subst h; apply Array.ext'; simp
section
variable {dd : Bool}
variable {P : Program} {E : Nat → Value} {W : World} {d : Option Nat} {ty : TypeId} {pos : String} {af : Array Edge} {g : Option (Nat × Bool)}
 {F : Nat → Prop} {w : World} {μ : lO} {L : List (Nat × Obj)}
variable {f : FuncId} {fv : Operand} {ax : Array Operand} {ats : Array TypeId} {args : List Value} {v : Value} {K : Value → World → Prop}
theorem Eg (a : ST dd F w W μ L) (he : ∀ args w, (callFunc f args).run P w = .ok (.enter f args) w) (b : lD dd P f args W v) (h : ∀ W', ST dd F w W' μ L → K v W') (i : kU E fv = .func (.func f) #[] #[] := by exact rfl) (ha : ax.toList.map (kU E) = args := by exact rfl) : ou P E ⟨d, .call ⟨.value fv, ax, ats⟩, ty, pos, af, g⟩ W K := FA a i he (aL ha) b h
theorem vK {α : Type} {e : TypeId} {enc : α → List Value} {k : Nat} {l : List α} {Y : List (Nat × Obj)} (a : ST dd F w W μ Y) (he : ∀ args w, (callFunc f args).run P w = .ok (.enter f args) w) (b : nC dd P f args W e enc k l) (h : ∀ W' v μ' R, ST dd F w W' μ' (R ++ Y) → lm μ μ' → Lo F w μ μ' → lA e enc k v l R → K v W') (i : kU E fv = .func (.func f) #[] #[] := by exact rfl) (ha : ax.toList.map (kU E) = args := by exact rfl) : ou P E ⟨d, .call ⟨.value fv, ax, ats⟩, ty, pos, af, g⟩ W K := Mi _ a i he (aL ha) b h
theorem He {K' : Value → List (Nat × Obj) → World → Prop} {L0 L2 : List (Nat × Obj)} (i : ST dd F w W μ L) (j : L.Perm (L0 ++ L2)) (he : ∀ args w, (callFunc f args).run P w = .ok (.enter f args) w) (k : E2 L0 W → (L0.map (·.1)).Nodup → lm μ (vA W L0) → (∀ b o, (b, o) ∈ L2 → vA W L0 b = some o) → mY dd P f args W L0 K') (h : ∀ W' v μ' L1, ST dd F w W' μ' (L1 ++ L2) → lm μ μ' → Lo F w μ μ' → (∀ b, W.heap.size ≤ b → ∀ o, vA W' L1 b = some o → μ' b = some o) → K' v L1 W' → K v W') (l : kU E fv = .func (.func f) #[] #[] := by exact rfl) (ha : ax.toList.map (kU E) = args := by exact rfl) : ou P E ⟨d, .call ⟨.value fv, ax, ats⟩, ty, pos, af, g⟩ W K :=
 QJ L0 L2 i j l he (aL ha) (fun a b c d => by have := k a b c d; simpa using this) h
theorem LU {K' : Value → List (Nat × Obj) → lO → Prop} {L0 L2 : List (Nat × Obj)} (i : ST dd F w W μ L) (j : L.Perm (L0 ++ L2)) (he : ∀ args w, (callFunc f args).run P w = .ok (.enter f args) w) (k : E2 L0 W → (L0.map (·.1)).Nodup → lm μ (vA W L0) → (∀ b o, (b, o) ∈ L2 → vA W L0 b = some o) → mo dd P f args W μ L0 K') (h : ∀ W' v μ' L1, ST dd F w W' μ' (L1 ++ L2) → lm μ μ' → Lo F w μ μ' → K' v L1 μ' → K v W') (l : kU E fv = .func (.func f) #[] #[] := by exact rfl) (ha : ax.toList.map (kU E) = args := by exact rfl) : ou P E ⟨d, .call ⟨.value fv, ax, ats⟩, ty, pos, af, g⟩ W K :=
 GH L0 L2 i j l he (aL ha) (fun a b c d => by have := k a b c d; simpa using this) h
end
section
variable {E : Nat → Value} {x1 x2 x3 x4 x5 x6 x7 x8 : Operand} {v1 v2 v3 v4 v5 v6 v7 v8 : Value}
theorem TL (h1 : kU E x1 = v1) : [x1].map (kU E) = [v1] := by rw [← h1]; rfl
theorem P5 (h1 : kU E x1 = v1) (a : kU E x2 = v2) : [x1, x2].map (kU E) = [v1, v2] := by rw [← h1, ← a]; rfl
end
def IN (P : Program) (n : Nat) (c : Code) (Q : qG) : Nat → (Nat → Value) → World → Prop
 | 0, _, _ => False
 | k + 1, E, W => CW P n c (qX (IN P n c Q k) Q) E W
theorem Ic {P : Program} {n : Nat} {c : Code} {Q : qG} {E : Nat → Value} {W : World} {k : Nat} (h : CW P n c (qX (IN P n c Q k) Q) E W) : IN P n c Q (k + 1) E W := h
theorem IN.rounds {P : Program} {n : Nat} {c : Code} {Q : qG} : ∀ (k : Nat) {E : Nat → Value} {W : World}, IN P n c Q k E W → ∀ a, Ag n a E → Code.rounds P c (lift n Q) k a W
 | 0, _, _, h, _, _ => h.elim
 | k + 1, E, W, h, a, ha => wp_mono (h a ha) (fun e g j d => by
  cases e with
  | normal => obtain ⟨E', b, i⟩ := d; exact IN.rounds k i g b
  | _ => exact d)
theorem NQ {P : Program} {n : Nat} {c : Code} {Q : qG} {E : Nat → Value} {W : World} (k : Nat) (h : IN P n c Q k E W) : CW P n (.loop c) Q E W := fun a ha => wp_loop_rounds k (IN.rounds k h a ha)
end Go.Proofs.YtklbhegeiijbjaaGreat
namespace Go.Proofs.YtklbhegeiijbjaaGreat
open Go.RowKit
def Ur (R : List (Nat × Obj)) (k : Nat) (p : Value) (i a : Nat) : Prop := ∃ g o, R = [(g, o)] ∧ p = .pointer (some ⟨g, i * k + a, none⟩)
theorem BE.f {R : List (Nat × Obj)} {k : Nat} {p : Value} {i : Nat} (h : BE R k p i) : Ur R k p i 0 := h
section
variable {P : Program} {E : Nat → Value} {W : World} {d : Option Nat} {ty : TypeId} {pos : String} {af : Array Edge} {g : Option (Nat × Bool)}
 {dd : Bool} {F : Nat → Prop} {w : World} {μ : lO} {L : List (Nat × Obj)} {α : Type} {e' : TypeId} {enc : α → List Value} {k : Nat} {v : Value} {l : List α} {R : List (Nat × Obj)}
theorem lA.put (h : lA e' enc k v l R) (hk : ∀ x, (enc x).length = k) {p : Value} {i : Nat} (hp : BE R k p i) {x0 : α} (t : l[i]? = some x0) (x1 : α) :
  ∃ g a, R = [(g, .cells a e' (0, 0))] ∧ p = .pointer (some ⟨g, i * k, none⟩) ∧ i * k + k ≤ a.size ∧ (∀ j y, (enc x0)[j]? = some y → a[i * k + j]? = some y) ∧
   lA e' enc k v (l.set i x1) [(g, .cells (a.toList.take (i * k) ++ enc x1 ++ a.toList.drop (i * k + k)).toArray e' (0, 0))] := by
 have n : i < l.length := (bN.1 t).1
 obtain ⟨r, a, cap, rfl, rfl, s, z, m, A, rfl, D⟩ := BI h hk hp t
 have hle : i * k + k ≤ cap * k := by
  have : (i + 1) * k ≤ cap * k := cI _ (by omega)
  rwa [cP, kq] at this
 have b : i * k + k ≤ l.length * k := by
  have : (i + 1) * k ≤ l.length * k := cI _ (by omega)
  rwa [cP, kq] at this
 have hlen : l.length * k ≤ cap * k := cI _ s
 refine ⟨r, a, rfl, rfl, by rw [m]; exact hle, D, .inr ⟨r, cap, _, by simp, rfl, by simpa using s, z, ?_, ?_⟩⟩
 ·show ((a.toList.take (i * k) ++ (enc x1) ++ a.toList.drop (i * k + k)).toArray).size = _
  have d : a.toList.length = cap * k := by simpa using m
  rw [dV, aF, aF, cQ, eP, hk, d, dD (by omega)]; omega
 ·rw [jx, Ge hk l i x1 n, ← A]
  have u : (a.toList.take (l.length * k)).take (i * k) = a.toList.take (i * k) := by rw [iB]; congr 1; omega
  have w : (a.toList.take (l.length * k)).drop (i * k + k) = (a.toList.drop (i * k + k)).take (l.length * k - (i * k + k)) := by rw [jc]
  rw [u, w]
  show List.take (l.length * k) (a.toList.take (i * k) ++ enc x1 ++ a.toList.drop (i * k + k)) = _
  have d : a.toList.length = cap * k := by simpa using m
  have q : (a.toList.take (i * k) ++ enc x1).length = i * k + k := by rw [aF, cQ, hk, d, dD (by omega)]
  rw [fS, dN (by rw [q]; exact b), q]
end
end Go.Proofs.YtklbhegeiijbjaaGreat
namespace Go.Proofs.YtklbhegeiijbjaaGreat
open Go.RowKit
theorem oc {v : Value} (h : v.cells.toList.all Value.oneCell' = true := by exact rfl) : ∀ u ∈ v.cells.toList, u.oneCell' = true := gM.1 h
theorem dc {p : Prop} [Decidable p] (h : p := by decide) : p := h
theorem kr {p : Prop} (h : p := by kernel_rfl) : p := h
theorem br {α : Sort _} {a b : α} (h : a = b := by rfl) : a = b := h
abbrev LO := List (Nat × Obj)
abbrev Ob (c : Array Value) (t : TypeId) : Obj := .cells c t (0, 0)
abbrev Ol (c : List Value) (t : TypeId) : Obj := .cells c.toArray t (0, 0)
theorem nq {P : Program} {t e : TypeId} {m k : Nat} {z : Value} {a : Array (Nat × Value)} {cs : Array Value} (j : P.underlying t = some (.slice e)) (i : ∀ w, (sizeOf e).run P w = .ok k w) (n : ∀ w, (zeroValue e).run P w = .ok z w) (hm : m * k ≤ 16777216 := by decide) (g : a.toList = (a.toList.map (·.2)).zipIdx.map (fun p => (p.2, p.1)) := by exact rfl) (l : (a.toList.map (·.2)).all (fun v => v.cells.size == k) = true := by exact rfl) (d : (a.toList.map (·.2)).length = m := by exact rfl) (b : ((a.toList.map (·.2)).flatMap (fun v => v.cells.toList)).toArray = cs := by exact rfl) (W : World) :
  (Instr.buildSlice t m a).run P W = .ok (.slice (some ⟨W.heap.size, 0, none⟩) m m) (W.alloc (.cells cs e (0, 0))) :=
 Aq _ j i n hm g (fun v h => eq_of_beq (gM.1 l v h)) d b W
section
variable {dd : Bool} {P : Program} {fn : Func} {E : Nat → Value} {W w : World} {μ : lO} {L L0 : List (Nat × Obj)}
theorem rQ {α : Type} {f : α → Value} {a r : α} {t : Tmp} (hm : some a = some r) (b : ST dd lT w W μ L) (d : fn.results = #[.tmp t] := by exact rfl) (g : E t = f a := by exact rfl) : yZ P fn (fun e W' => e = .returned (f r) ∧ Ex dd w W') .ret E W := by
 obtain rfl := sj hm; exact mI d g ⟨rfl, b.ex⟩
theorem cG (n : Nat) {f : FuncId} {c : Code} {args : List Value} {v : Value} (a : P.funcs[f]? = some fn) (b : fn.body = some c) (h : ST dd lT w w (hp w) [] → CW P n c (yZ P fn (fun e i => e = .returned v ∧ Ex dd w i)) (DD args) w) (g : fn.ntmps = n := by exact rfl) (d : args.length ≤ n := by exact nb) : lD dd P f args w v := AB a b g d (h (ST.start w))
theorem xg {K : Value → List (Nat × Obj) → World → Prop} (n : Nat) {f : FuncId} {c : Code} {args : List Value} (a : P.funcs[f]? = some fn) (d : fn.body = some c) (h : ST dd lT w w (hp w) [] → CW P n c (yZ P fn (fun e b => ∃ v L1, e = .returned v ∧ vd dd [] L1 w b ∧ K v L1 b)) (DD args) w) (i : fn.ntmps = n := by exact rfl) (g : args.length ≤ n := by exact nb) : mY dd P f args w [] K := AB a d i g (h (ST.start w))
theorem BL {K : Value → List (Nat × Obj) → World → Prop} (d : ox μ L0 w) (n : Nat) {f : FuncId} {c : Code} {args : List Value} (a : P.funcs[f]? = some fn) (g : fn.body = some c) (h : ST dd (keys L0) w w μ L0 → CW P n c (yZ P fn (fun e b => ∃ v L1, e = .returned v ∧ vd dd L0 L1 w b ∧ K v L1 b)) (DD args) w) (j : fn.ntmps = n := by exact rfl) (i : args.length ≤ n := by exact nb) : mY dd P f args w L0 K := AB a g j i (h (ST.Ow d))
theorem sF {K : Value → List (Nat × Obj) → lO → Prop} (d : ox μ L0 w) (n : Nat) {f : FuncId} {c : Code} {args : List Value} (a : P.funcs[f]? = some fn) (g : fn.body = some c) (h : ST dd (keys L0) w w μ L0 → CW P n c (yZ P fn (fun e b => ∃ v L1 μ1, e = .returned v ∧ vd dd L0 L1 w b ∧ lm μ μ1 ∧ Lo (keys L0) w μ μ1 ∧ lm μ1 (vA b L1) ∧ K v L1 μ1)) (DD args) w) (j : fn.ntmps = n := by exact rfl) (i : args.length ≤ n := by exact nb) : mo dd P f args w μ L0 K := AB a g j i (h (ST.Ow d))
end
section
variable {dd : Bool}
variable {P : Program} {E : Nat → Value} {W : World} {d : Option Nat} {ty : TypeId} {pos : String} {af : Array Edge} {g : Option (Nat × Bool)}
 {F : Nat → Prop} {w : World} {μ : lO} {L : List (Nat × Obj)}
variable {f : FuncId} {fv : Operand} {ax : Array Operand} {ats : Array TypeId} {args : List Value} {v : Value} {K : Value → World → Prop}
theorem eM {K' : Value → List (Nat × Obj) → World → Prop} {L0 L2 : List (Nat × Obj)} (i : ST dd F w W μ L) (j : L.Perm (L0 ++ L2)) (he : ∀ args w, (callFunc f args).run P w = .ok (.enter f args) w) (k : ox (vA W L0) L0 W → lm μ (vA W L0) → mY dd P f args W L0 K') (h : ∀ W' v μ' L1, ST dd F w W' μ' (L1 ++ L2) → lm μ μ' → Lo F w μ μ' → (∀ b, W.heap.size ≤ b → ∀ o, vA W' L1 b = some o → μ' b = some o) → K' v L1 W' → K v W') (l : kU E fv = .func (.func f) #[] #[] := by exact rfl) (ha : ax.toList.map (kU E) = args := by exact rfl) : ou P E ⟨d, .call ⟨.value fv, ax, ats⟩, ty, pos, af, g⟩ W K :=
 He i j he (fun a b c _ => k ⟨a, b, lm.refl _⟩ c) h l ha
theorem eD {K' : Value → List (Nat × Obj) → lO → Prop} {L0 L2 : List (Nat × Obj)} (i : ST dd F w W μ L) (j : L.Perm (L0 ++ L2)) (he : ∀ args w, (callFunc f args).run P w = .ok (.enter f args) w) (k : ox μ L0 W → mo dd P f args W μ L0 K') (h : ∀ W' v μ' L1, ST dd F w W' μ' (L1 ++ L2) → lm μ μ' → Lo F w μ μ' → K' v L1 μ' → K v W') (l : kU E fv = .func (.func f) #[] #[] := by exact rfl) (ha : ax.toList.map (kU E) = args := by exact rfl) : ou P E ⟨d, .call ⟨.value fv, ax, ats⟩, ty, pos, af, g⟩ W K :=
 LU i j he (fun a b c _ => k ⟨a, b, c⟩) h l ha
end
def NZ (op : BinOp) : Value → Value → Option Value
 | .int k a, .int k' b => if k = k' then Jm k op a b else none
 | _, _ => none
def RY (i : Nat) : Value → Option Value
 | .tuple vs => vs[i]?
 | _ => none
def Ju : Value → Bool
 | .pointer (some ⟨_, _, none⟩) => true
 | _ => false
def RQ (o : Nat) : Value → Value
 | .pointer (some ⟨b, k, none⟩) => .pointer (some ⟨b, k + o, none⟩)
 | v => v
theorem IM {v : Value} (h : Ju v = true) : ∃ b k, v = .pointer (some ⟨b, k, none⟩) := by
 unfold Ju at h; split at h
 ·exact ⟨_, _, rfl⟩
 ·cases h
section
variable {P : Program} {n : Nat} {Q : qG} {E : Nat → Value} {W : World} {ops : Array Oper} {rest : List Oper}
 {d j t : Nat} {want b : Bool} {v : Value} {ins : Go.Op} {ty : TypeId} {pos : String} {af : Array Edge} {A : Value → Prop} {x y : Operand}
theorem Wm (h : LW P n ops Q rest (oH E d (kU E x)) W) (a : d < n := by decide) : LW P n ops Q (⟨some d, .move x, ty, pos, af, none⟩ :: rest) E W := V (kR rfl) h a
theorem Wa (h : LW P n ops Q rest (oH E d (kU E x)) W) (a : d < n := by decide) : LW P n ops Q (⟨some d, .assign x, ty, pos, af, none⟩ :: rest) E W := V (om rfl) h a
theorem Wh (b : kU E x = v) (h : LW P n ops Q rest (oH E d v) W) (a : d < n := by decide) : LW P n ops Q (⟨some d, .move x, ty, pos, af, none⟩ :: rest) E W := V (kR b) h a
theorem Wg (b : kU E x = v) (h : LW P n ops Q rest (oH E d v) W) (a : d < n := by decide) : LW P n ops Q (⟨some d, .assign x, ty, pos, af, none⟩ :: rest) E W := V (om b) h a
theorem Wx {i : Nat} (a : RY i (kU E x) = some v) (h : LW P n ops Q rest (oH E d v) W) (b : d < n := by decide) : LW P n ops Q (⟨some d, .extract x i, ty, pos, af, none⟩ :: rest) E W := by
 unfold RY at a; split at a
 ·rename_i vs e; exact V (Fc e a) h b
 ·cases a
theorem Wi {op : BinOp} {p m : TypeId} (g : NZ op (kU E x) (kU E y) = some v) (h : LW P n ops Q rest (oH E d v) W) (l : d < n := by decide) : LW P n ops Q (⟨some d, .binOp op p x y m, ty, pos, af, none⟩ :: rest) E W := by
 unfold NZ at g; split at g
 ·rename_i k a k' b i j
  split at g
  ·rename_i e; subst e; exact V (lR i j g) h l
  ·cases g
 ·cases g
theorem Wf {t : TypeId} {f off : Nat} (a : nj P t f off) (h : LW P n ops Q rest (oH E d (RQ off (kU E x))) W) (hp : Ju (kU E x) = true := by exact rfl) (g : d < n := by decide) : LW P n ops Q (⟨some d, .fieldAddr t x f, ty, pos, af, none⟩ :: rest) E W := by
 obtain ⟨b, k, e⟩ := IM hp
 refine V (kP a e) ?_ g
 rw [e] at h; exact h
theorem Wn (h : LW P n ops Q rest (oH E d (kU E x)) W) (hp : Ju (kU E x) = true := by exact rfl) (a : d < n := by decide) : LW P n ops Q (⟨some d, .nilCheck x, ty, pos, af, none⟩ :: rest) E W := by
 obtain ⟨b, k, e⟩ := IM hp
 refine V (ny e) ?_ a
 rw [e] at h; exact h
theorem un (h : b = !want) (k : LW P n ops Q rest (oH E d undef) W) (g : (ops[j]?).bind (·.dst) = some t := by exact rfl) (a : E t = .bool b := by exact rfl) (l : t < n := by decide) (i : d < n := by decide) :
  LW P n ops Q (⟨some d, ins, ty, pos, af, some (j, want)⟩ :: rest) E W := Vn g (by rw [a, h]) k l i
theorem ug (h : b = want) (l : ng P E ⟨some d, ins, ty, pos, af, some (j, want)⟩ W v W) (k : LW P n ops Q rest (oH E d v) W) (g : (ops[j]?).bind (·.dst) = some t := by exact rfl) (a : E t = .bool b := by exact rfl) (m : t < n := by decide) (i : d < n := by decide) :
  LW P n ops Q (⟨some d, ins, ty, pos, af, some (j, want)⟩ :: rest) E W := Vg g (by rw [a, h]) l k m i
theorem sE (h : b = want) (k : ou P E ⟨some d, ins, ty, pos, af, some (j, want)⟩ W fun v W' => LW P n ops Q rest (oH E d v) W') (g : (ops[j]?).bind (·.dst) = some t := by exact rfl) (a : E t = .bool b := by exact rfl) (l : t < n := by decide) (i : d < n := by decide) :
  LW P n ops Q (⟨some d, ins, ty, pos, af, some (j, want)⟩ :: rest) E W := Oq g (by rw [a, h]) k l i
theorem Uj (h : b = want) (l : ∃ p, A p ∧ ∀ W, ng P E ⟨some d, ins, ty, pos, af, some (j, want)⟩ W p W) (k : ∀ p, A p → LW P n ops Q rest (oH E d p) W) (g : (ops[j]?).bind (·.dst) = some t := by exact rfl) (a : E t = .bool b := by exact rfl) (m : t < n := by decide) (i : d < n := by decide) :
  LW P n ops Q (⟨some d, ins, ty, pos, af, some (j, want)⟩ :: rest) E W := Us g (by rw [a, h]) l k m i
section
variable {dd : Bool} {F : Nat → Prop} {w : World} {μ : lO} {L : List (Nat × Obj)} {T : TypeId} {a off : Nat} {cs : Array Value} {fr : Nat × Nat}
theorem VA {t : TypeId} (b : ST dd F w W μ L) (i : (a, Obj.cells cs T fr) ∈ L) (ys : List Value) (g : ∀ w, (isAgg t).run P w = .ok true w) (j : ∀ w, (sizeOf t).run P w = .ok ys.length w) (h : LW P n ops Q rest (oH E d (.agg ys.toArray)) W) (l : kU E x = .pointer (some ⟨a, off, none⟩) := by exact rfl) (m : (cs.toList.drop off).take ys.length = ys := by exact rfl) (k : d < n := by decide) : LW P n ops Q (⟨some d, .load t x, ty, pos, af, none⟩ :: rest) E W := V (kI l (kM b.has i ys m g j)) h k
theorem VB {t : TypeId} (b : ST dd F w W μ L) (i : (a, Obj.cells cs T fr) ∈ L) (k : kU E x = .pointer (some ⟨a, off, none⟩)) (l : cs[off]? = some v) (g : ∀ w, (isAgg t).run P w = .ok false w) (h : LW P n ops Q rest (oH E d v) W) (j : d < n := by decide) : LW P n ops Q (⟨some d, .load t x, ty, pos, af, none⟩ :: rest) E W := V (kI k (lh b.has i l g)) h j
end
section
variable {K : (Nat → Value) → World → Prop} {Q' : qG} {c : Code} {id id2 : Nat} {l : List Oper} {z : Code}
theorem sg (h : LW P n l.toArray (qX (fun E W => CW P n c Q E W) Q) l E W) : CW P n (.seq (.region id l.toArray false) c) Q E W := kY (kV h)
theorem ln (h : K E W) : LW P n ops (qX K Q) [] E W := lH (kT h)
theorem lr (h : LW P n l.toArray (qX (fun E W => CW P n c Q E W) Q) l E W) : LW P n ops (qX (fun E W => CW P n (.seq (.region id l.toArray false) c) Q E W) Q') [] E W := lH (kT (kY (kV h)))
theorem lS (h : LW P n l.toArray (qX (fun E W => CW P n c (qX (fun E W => CW P n z Q E W) Q) E W) (qX (fun E W => CW P n z Q E W) Q)) l E W) : LW P n ops (qX (fun E W => CW P n (.seq (.seq (.region id l.toArray false) c) z) Q E W) Q') [] E W := lH (kT (kY (kY (kV h))))
theorem bg (h : LW P n l.toArray (qX (fun E W => CW P n c (xy id2 Q) E W) (xy id2 Q)) l E W) : CW P n (.block id2 (.seq (.region id l.toArray false) c)) Q E W := mB (kY (kV h))
theorem kg (h : LW P n l.toArray (qX (fun E W => CW P n c Q E W) Q) l E W) : CW P n .skip (qX (fun E W => CW P n (.seq (.region id l.toArray false) c) Q E W) Q') E W := mr (kT (kY (kV h)))
theorem kS (h : LW P n l.toArray (qX (fun E W => CW P n c (qX (fun E W => CW P n z Q E W) Q) E W) (qX (fun E W => CW P n z Q E W) Q)) l E W) : CW P n .skip (qX (fun E W => CW P n (.seq (.seq (.region id l.toArray false) c) z) Q E W) Q') E W := mr (kT (kY (kY (kV h))))
theorem lt (h : Q .ret E W) : LW P n ops (qX (fun E W => CW P n .ret Q E W) Q') [] E W := lH (kT (lC h))
theorem kn (h : K E W) : CW P n .skip (qX K Q) E W := mr (kT h)
end
end
end Go.Proofs.YtklbhegeiijbjaaGreat
namespace Go.Proofs.YtklbhegeiijbjaaGreat
open Go.Sort Go.Proofs Go.Shelf
theorem Gy {g b : Nat} {o : Obj} : keys [(g, o)] b ↔ b = g := by
 constructor
 ·rintro ⟨a, h⟩
  simp at h
  exact h.1
 ·rintro rfl; exact ⟨o, by simp⟩
theorem CH (w : World) (g m : Nat) (f : Array Value → Array Value) (os : Array Obj) (b : Nat) (d : b < w.heap.size) :
  (Go.Sort.grow (mapBlock (Go.Sort.ahead w m) g f) os).heap[b]? = if g = b then w.heap[b]?.map (onCells f) else w.heap[b]? := by
 have a : b < (mapBlock (Go.Sort.ahead w m) g f).heap.size := by simp only [mapBlock, Go.Sort.ahead, Array.size_modify]; exact d
 rw [heap_grow_old _ _ a]
 simp only [mapBlock, Go.Sort.ahead, eU]
theorem KP {w : World} {g m : Nat} {f : Array Value → Array Value} {os : Array Obj} {cs : Array Value} {T : TypeId} {fr : Nat × Nat} (d : w.heap[g]? = some (.cells cs T fr)) :
  vd true [(g, .cells cs T fr)] [(g, .cells (f cs) T fr)] w (Go.Sort.grow (mapBlock (Go.Sort.ahead w m) g f) os) := by
 have a : g < w.heap.size := (dU.1 d).1
 refine ⟨⟨rfl, rfl, rfl, ?_, ?_, fun b i j => ?_⟩, fun b o h => ?_, by simp⟩
 ·refine uY.of ?_
  show w.drawn ≤ w.drawn + m
  omega
 ·show w.heap.size ≤ (w.heap.modify g (onCells f) ++ os).size
  simp
 ·rw [CH _ _ _ _ _ _ i, bA fun h => j (Gy.2 h.symm)]
 ·simp only [aQ, dL, gQ, Prod.mk.injEq] at h
  obtain ⟨rfl, rfl⟩ := h
  refine ⟨?_, .inr (Gy.2 rfl)⟩
  rw [CH _ _ _ _ _ _ a, aY rfl, d]
  rfl
theorem Mx {w W : World} (h : Ex true w W) : ∃ q os, W = Go.Sort.grow (w.drewN q) os := by
 refine ⟨W.drawn - w.drawn, W.heap.extract w.heap.size W.heap.size, ?_⟩
 have g : W.heap = w.heap ++ W.heap.extract w.heap.size W.heap.size := by
  apply Array.ext_getElem?
  intro i
  rw [Array.getElem?_append]
  split
  ·rename_i j; exact h.nI i j
  ·rename_i j
   rw [Array.getElem?_extract]
   have l := h.size
   split
   ·rw [show w.heap.size + (i - w.heap.size) = i by omega]
   ·exact Array.getElem?_eq_none (by omega)
 obtain ⟨h1, m, n, p, r⟩ := W
 have a := h.os; have b := h.tape; have d := h.output; have k := h.drawn rfl
 simp only at a b d k g
 unfold Go.Sort.grow World.drewN
 simp only [World.mk.injEq]
 exact ⟨g, b, by omega, a, d⟩
theorem Lz {α : Type} [Inhabited α] {enc : α → List Value} {k : Nat} (hk : ∀ x, (enc x).length = k) (l : List α) (j : Nat) (a : j < l.length * k) :
  (l.map enc).flatten[j]? = some ((flatK enc k l.toArray)[j]!) := by
 have g : 0 < k := by
  cases k with
  | zero => simp at a
  | succ n => omega
 have h1 : j / k < l.length := (jo g).2 a
 rw [get_flatK _ _ _ _ (by simpa using a)]
 have h : l.toArray[j / k]! = l[j / k] := by
  rw [getElem!_pos l.toArray (j / k) (by simpa using h1)]; simp
 rw [h]
 have b : j % k < (enc l[j / k]).length := by rw [hk]; exact Nat.mod_lt _ g
 have d := xI hk l (j / k) l[j / k] (dB h1) (j % k) ((enc l[j / k])[j % k]) (dB b)
 rw [Nat.div_add_mod' j k] at d
 rw [d, getElem!_pos (enc l[j / k]) (j % k) b]
theorem I8 {α : Type} [Inhabited α] {enc : α → List Value} {k : Nat} (hk : ∀ x, (enc x).length = k) {w : World} {g : Nat} {cs : Array Value} {T : TypeId} (b : w.heap[g]? = some (.cells cs T (0, 0))) (l : List α)
  (h : cs.toList.take (l.length * k) = (l.map enc).flatten) : HoldsK enc k w g 0 l.toArray := by
 intro j d
 have a : j < l.length * k := by simpa using d
 have h1 := Lz hk l j a
 rw [← h, gN, aY a] at h1
 refine ⟨?_, ?_⟩
 ·simp only [World.cell?, b, fN]
  simpa using h1
 ·simp [World.frozen?, b]
theorem KZ {α : Type} [Inhabited α] {enc : α → List Value} {k : Nat} (hk : ∀ x, (enc x).length = k) {cs : Array Value} (l : List α) (b : l.length * k ≤ cs.size) :
  (putCells id 0 (flatK enc k l.toArray) cs).toList.take (l.length * k) = (l.map enc).flatten := by
 apply fL
 intro j
 rw [gN]
 split
 ·rename_i a
  rw [Lz hk l j a]
  simp only [putCells, dT, Array.getElem?_mapIdx, size_flatK, dV]
  rw [Array.getElem?_eq_getElem (by omega)]
  simp [a]
 ·rename_i a
  rw [gV (by rw [pJ hk]; omega)]
theorem Jl (enc : Value → Value) (o : Nat) (d c : Array Value) : (putCells enc o d c).size = c.size := by simp [putCells]
section
variable {α : Type} {P : Program} {ρ : Ren}
theorem Sd {l : List α} {cf : α × α → Option Int} (h : EQ cf l) : SWO (ltOf fun (x y : {x // x ∈ l}) => (cf (x.1, y.1)).getD 0) ∧
  (∀ x y : {x // x ∈ l}, ltOf (fun (x y : {x // x ∈ l}) => (cf (x.1, y.1)).getD 0) x y = vn cf x.1 y.1) := by
 have e : ∀ x y : {x // x ∈ l}, ltOf (fun (x y : {x // x ∈ l}) => (cf (x.1, y.1)).getD 0) x y = vn cf x.1 y.1 := fun x y => by
  obtain ⟨c, g⟩ := h.is x.1 x.2 y.1 y.2
  simp [ltOf, vn, g]
 refine ⟨⟨fun x => ?_, fun x y z => ?_, fun x y z => ?_⟩, e⟩
 ·rw [e]; exact h.irrefl _ x.2
 ·rw [e, e, e]; exact h.trans _ x.2 _ y.2 _ z.2
 ·rw [e, e, e]
  intro h1 b
  cases a : vn cf x.1 z.1 with
  | false => rfl
  | true =>
   cases d : vn cf y.1 x.1 with
   | true =>
    have := h.trans _ y.2 _ x.2 _ z.2 d a
    rw [b] at this; cases this
   | false =>
    have := h.total _ x.2 _ y.2 h1 d
    rw [this, b] at a; cases a
theorem Lh (L : SlLaysF0.n6 P ρ) (k : Nat) (aE : ∀ w, (isAgg (ρ.t 24)).run P w = .ok true w) (zE : ∀ w, (Go.sizeOf (ρ.t 24)).run P w = .ok k w) {e : TypeId} (enc : α → List Value) (hk : ∀ x, (enc x).length = k) (h1 : ∀ x, ∀ u ∈ enc x, u.oneCell' = true) {v fv : Value} {l r : List α} {R : List (Nat × Obj)} {cf : α × α → Option Int} {w : World} {μ0 : lO} (hH : E2 (R ++ []) w) (A : lm μ0 (vA w (R ++ []))) (U : lA e enc k v l R) (hc : TE P fv μ0 (fun (x : α × α) => [(.agg (enc x.1).toArray), (.agg (enc x.2).toArray)]) (fun (r : Int) => (.int .i64 r)) cf) (hm : AF cf l = some r) :
  mY true P (ρ.f 6) [v, fv] w (R ++ []) (fun u L1 _ => ∃ (S : List (Nat × Obj)), u = (.tuple #[]) ∧ L1 = (S ++ []) ∧ lA e enc k v r S) := by
 obtain ⟨ok, rfl⟩ := HF hm
 rw [bJ] at hH A ⊢
 rcases fF l.length with h0 | i
 ·have hl : l = [] := aU h0
  subst hl
  have W : uF cf ([] : List α) = [] := by simp [uF]
  rw [W]
  obtain ⟨p, c, rfl⟩ : ∃ p c, v = .slice p 0 c := by
   rcases U with ⟨rfl, _, _⟩ | ⟨g, cap, j, rfl, _⟩
   ·exact ⟨_, _, rfl⟩
   ·exact ⟨_, _, rfl⟩
  refine dY (AnyF.slices_SortFunc_none L p c fv w) fun x w' ⟨hx, hw⟩ => ?_
  subst hx hw
  refine ⟨_, R, rfl, ⟨⟨rfl, rfl, rfl, uY.of (aZ _), aZ _, fun _ _ _ => rfl⟩, fun b o h => ⟨hH b o h, .inr ⟨o, h⟩⟩, ?_⟩, R, rfl, (bJ R).symm, U⟩
  rcases U with ⟨_, _, rfl⟩ | ⟨g, cap, j, _, rfl, _⟩ <;> simp
 ·rcases U with ⟨_, rfl, _⟩ | ⟨g, cap, j, rfl, rfl, a6, a1, I, ab⟩
  ·simp at i
  have hg : w.heap[g]? = some (.cells j e (0, 0)) := hH g _ (by simp)
  have a7 : g < w.heap.size := (dU.1 hg).1
  haveI : Inhabited {x // x ∈ l} := ⟨⟨l[0], List.getElem_mem i⟩⟩
  obtain ⟨gg, caps, rfl, J, q⟩ := hc
  obtain ⟨hO, M⟩ := Sd ok
  have D : l.attach.toArray.size = l.length := by simp
  have a8 : l.attach.map (fun x => enc x.1) = l.map enc := by
   rw [show (fun x : {x // x ∈ l} => enc x.1) = enc ∘ Subtype.val from rfl, ← fI, List.attach_map_subtype_val]
  have Y : HoldsK (fun x : {x // x ∈ l} => enc x.1) k w g 0 l.attach.toArray := I8 (fun x => hk x.1) hg l.attach (by rw [a8, List.length_attach, ab])
  have G : CmpLays P gg caps (fun x : {x // x ∈ l} => enc x.1) k (fun x y => (cf (x.1, y.1)).getD 0) g 0 l.attach.toArray.size w := by
   intro m os dk ae x y
   obtain ⟨c, F⟩ := ok.is x.1 x.2 y.1 y.2
   have T : lm μ0 (hp (sortWorldK (fun x : {x // x ∈ l} => enc x.1) k w g 0 m dk os)) := fun b o hb => by
    have z := A b o hb
    unfold vA at z
    split at z
    ·cases z
    ·rename_i hn
     have Z : b < w.heap.size := (dU.1 z).1
     show (Go.Sort.grow (mapBlock (Go.Sort.ahead w m) g _) os).heap[b]? = _
     rw [CH _ _ _ _ _ _ Z, bA fun h => hn (Gy.2 h.symm)]
     exact z
   have h3 := q (sortWorldK (fun x : {x // x ∈ l} => enc x.1) k w g 0 m dk os) (x.1, y.1) c T F
   have ea : ([Value.agg (enc x.1).toArray, Value.agg (enc y.1).toArray] ++ caps.toList).toArray = #[Value.agg (enc x.1).toArray, Value.agg (enc y.1).toArray] ++ caps := by
    apply Array.ext'; simp
   rw [← ea]
   exact dY h3 fun u W' hu => ⟨by rw [hu.1]; show _ = Ending.returned (.int .i64 ((cf (x.1, y.1)).getD 0)); rw [F]; rfl, Mx hu.2⟩
  have hT : ∀ x y : {x // x ∈ l}, ltOf (fun (x y : {x // x ∈ l}) => (cf (x.1, y.1)).getD 0) x y = false → ltOf (fun (x y : {x // x ∈ l}) => (cf (x.1, y.1)).getD 0) y x = false → x = y := fun x y a b => by
   rw [M] at a b
   exact Subtype.ext (ok.total _ x.2 _ y.2 a b)
  have d := AnyQ.slices_SortFunc_total L k aE zE (fun x : {x // x ∈ l} => enc x.1) (fun x => hk x.1) (fun x => h1 x.1) (fun x y => (cf (x.1, y.1)).getD 0) hO gg caps g 0 cap l.attach.toArray w J G Y a7 (by rw [D]; exact ok.short) hT
  rw [D] at d
  refine dY d fun u w' ⟨hu, n, os, hw⟩ => ?_
  subst hu
  generalize W : l.attach.toArray.toList.mergeSort (fun x y => !ltOf (fun (x y : {x // x ∈ l}) => (cf (x.1, y.1)).getD 0) y x) = s at hw
  have aa : s.map Subtype.val = uF cf l := by
   rw [← W, jJ (s := fun x y => !vn cf y x) (fun a _ b _ => by rw [M])]
   simp [uF]
  have Q : s.length = l.length := by rw [← W, List.length_mergeSort]; simp
  have O : (uF cf l).length = l.length := by simp [uF, List.length_mergeSort]
  have E := KP (w := w) (m := n) (f := putCells id 0 (flatK (fun x : {x // x ∈ l} => enc x.1) k s.toArray)) (os := os) hg
  have ad : w' = Go.Sort.grow (mapBlock (Go.Sort.ahead w n) g (putCells id 0 (flatK (fun x : {x // x ∈ l} => enc x.1) k s.toArray))) os := hw
  rw [← ad] at E
  refine ⟨_, _, rfl, E, _, rfl, (bJ _).symm, .inr ⟨g, cap, _, by rw [O], rfl, by omega, a1, by rw [Jl, I], ?_⟩⟩
  rw [O, ← Q, KZ (fun x => hk x.1) s (by rw [Q, I]; exact cI k a6), ← aa, fI]
  rfl
end
end Go.Proofs.YtklbhegeiijbjaaGreat
namespace Go.Proofs.YtklbhegeiijbjaaGreat
open Go.Sort Go.Proofs Go.Shelf
theorem EX (b : ByteArray) : b.toList = b.data.toList := by rw [gK]
theorem Ro (l : List ByteArray) : (l.map ul).flatten = l.map Value.string := by
 induction l with
 | nil => rfl
 | cons x l ih => simp only [bP, bR, ih]; rfl
theorem OP (l : List ByteArray) : (vU l).map (fun b => b.data.toList) = (l.map (fun b => b.data.toList)).mergeSort (fun x y => decide (x ≤ y)) := by
 unfold vU
 refine jJ fun a _ b _ => ?_
 unfold rj
 rw [bytesLess_eq, EX, EX]
 by_cases h : a.data.toList ≤ b.data.toList
 ·have d : ¬ b.data.toList < a.data.toList := List.not_lt.2 h
  simp [h, d]
 ·have d : b.data.toList < a.data.toList := by
   cases Decidable.em (b.data.toList < a.data.toList) with
   | inl g => exact g
   | inr g => exact absurd (List.not_lt.1 g) h
  simp [h, d]
end Go.Proofs.YtklbhegeiijbjaaGreat
namespace Go.Proofs.YtklbhegeiijbjaaGreat
open Go.WideElems Go.WideShapes Go.Sort Go.Proofs Go.Shelf
theorem KU {β : Type} {vf : β → Value} {P : Program} {kt : TypeId} (A : P.underlying kt = some .string) {l : List (ByteArray × β)} {es : Array MapEntry} {clock : Nat} (h : vL Value.string vf l es clock) (y : (l.map (·.1)).Nodup) (z : ∀ p ∈ l, p.1.size ≤ maxLen) (w : l.length ≤ maxLen) {W : World} {b : Nat} (u : W.heap[b]? = some (.map es clock)) : ∃ D : DataW Unit, W.ownsMap P kt (fun _ => some (.lit (.bool true), [])) b es.size D ∧ (strKeys D).Perm (l.map (fun p => p.1.data.toList)) ∧ Maps.size D = l.length := by
 have d := h.keys
 have n : ∀ x ∈ es.toList, ∃ s : ByteArray, x.key = .string s ∧ s.size ≤ maxLen := fun x j => by
  have h1 : x.key ∈ es.toList.map (·.key) := bO.2 ⟨x, j, rfl⟩
  rw [d] at h1
  obtain ⟨s, i, k⟩ := bO.1 h1
  obtain ⟨p, r, t⟩ := bO.1 i
  exact ⟨s, k.symm, by rw [← t]; exact z p r⟩
 have g : ∀ x ∈ es.toList, ∃ s : ByteArray, x.key = .string s ∧ Go.WideElems.rd (H := Unit) P kt (fun _ => some (.lit (.bool true), [])) x = some (.string s.data.toList, .lit (.bool true)) := fun x j => by
  obtain ⟨s, h1, i⟩ := n x j
  refine ⟨s, h1, ?_⟩
  simp [Go.WideElems.rd, keyOf, A, mapKey, h1, i]
 refine ⟨_, ⟨es, clock, u, ⟨by rw [h.length]; exact w, ⟨h.lt, ?_, ?_⟩, fun x j => ?_⟩, aZ _, rfl⟩, ?_, ?_⟩
 ·have := h.born
  rw [List.Nodup, gY]
  exact this.imp (fun {a b} h => by omega)
 ·rw [d]
  rw [List.Nodup, gY]
  exact y.imp (fun {a b} m e => m (by injection e))
 ·obtain ⟨s, _, i⟩ := g x j
  exact ⟨_, i⟩
 ·have h1 := (sorted_perm (es.toList.map (Go.WideElems.rg (H := Unit) P kt (fun _ => some (.lit (.bool true), []))))).map (fun p => strOf p.1)
  refine List.Perm.trans h1 ?_
  have e : (es.toList.map (Go.WideElems.rg (H := Unit) P kt (fun _ => some (.lit (.bool true), [])))).map (fun p => strOf p.1) = l.map (fun p => p.1.data.toList) := by
   have q : (es.toList.map (Go.WideElems.rg (H := Unit) P kt (fun _ => some (.lit (.bool true), [])))).map (fun p => strOf p.1) = (es.toList.map (·.key)).map (fun v => match v with | .string s => s.data.toList | _ => []) := by
    rw [fI, fI]
    refine List.map_congr_left fun x j => ?_
    obtain ⟨s, i, k⟩ := g x j
    simp [Go.WideElems.rg, k, i, strOf]
   rw [q, d, fI, fI]
   rfl
  rw [e]
 ·have h1 := (sorted_perm (es.toList.map (Go.WideElems.rg (H := Unit) P kt (fun _ => some (.lit (.bool true), []))))).length_eq
  show (List.foldr DataW.insert [] _).length = _
  rw [h1, dC, ← h.length]
  simp
theorem Jd {l : List ByteArray} {g : List (List UInt8)} (h : g.Perm (l.map fun b => b.data.toList)) : g.mergeSort (fun x y => decide (x ≤ y)) = (vU l).map (fun b => b.data.toList) := by
 rw [OP]
 have le : ∀ a b c : List UInt8, decide (a ≤ b) = true → decide (b ≤ c) = true → decide (a ≤ c) = true := fun a b c h1 d => by
  simp only [bK] at *
  exact List.le_trans h1 d
 have tot : ∀ a b : List UInt8, (decide (a ≤ b) || decide (b ≤ a)) = true := fun a b => by
  simp only [gS, bK]
  exact List.le_total a b
 refine List.Perm.eq_of_pairwise (le := fun a b => decide (a ≤ b) = true) (fun a b _ _ h1 d => List.le_antisymm (by simpa using h1) (by simpa using d)) (iZ le tot _) (iZ le tot _) ?_
 exact (jD _ _).trans (h.trans (jD _ _).symm)
section
variable {P : Program} {ρk ρt ρm : Ren}
theorem KO (LK : SlLaysZ.n7 P ρk) (LT : SlLaysZ.n6 P ρt) (LM : SlLaysM.n6 P ρm) (h9 : ρt.f 9 = ρm.f 6) (hK : P.underlying (ρk.t 26) = some .string) (eg : ∀ args w, (callFunc (ρk.f 10) args).run P w = .ok (.enter (ρk.f 10) args) w) (es : ∀ args w, (callFunc (ρt.f 9) args).run P w = .ok (.enter (ρt.f 9) args) w) {β : Type} {vf : β → Value} {l : List (ByteArray × β)} {b : Nat} {mv : Value} {t : TypeId} {W : World} {r : List ByteArray} (z : W.heap[b]? = some (.cells #[mv] t (0, 0))) (hm : xm Value.string vf (hp W) mv l) (hk : GR l = some r) :
  nC false P (ρt.f 6) [.func (.func (ρk.f 10)) #[] #[.pointer (some ⟨b, 0, none⟩)]] W (ρt.t 26) ul 1 r := by
 unfold GR at hk
 split at hk
 case isFalse => cases hk
 rename_i hc
 obtain ⟨T, U, Y⟩ := hc
 cases hk
 have j : b < W.heap.size := (dU.1 z).1
 have d : W.cell? ⟨b, 0, none⟩ = some mv := by simp [World.cell?, z]
 have s : AnyZ.SortsIn P ρt Fence.wide 4 :=
  ⟨fun M off cap i W hH hblk u => callsIn_wide.2 (by rw [h9]; exact AnyM.slices_Sort_string LM M off cap i W hH hblk u), fun p cap W => callsIn_wide.2 (by rw [h9]; exact AnyM.slices_Sort_string_none LM p cap W)⟩
 have I : SeqGives Fence.wide 2 P (ρk.f 10) #[.pointer (some ⟨b, 0, none⟩)] encStr (fun i => i.Perm ((l.map (·.1)).map fun b => b.data.toList)) l.length W := by
  rcases hm with ⟨rfl, rfl⟩ | ⟨m, es, clock, rfl, a6, E⟩
  ·have := AnyZ.keys_gives_nil (ρ := ρk) { LK with } Fence.wide 2 trivial rfl b W j d
   intro l' J W' Q O R L
   refine CallsIn.mono (this l' J W' Q O R L) ?_
   rintro e w' ⟨hv, i, rfl, hj⟩
   exact ⟨hv, [], aX _, hj⟩
  ·obtain ⟨D, F, q, u⟩ := KU hK E T U (by unfold maxLen; omega) a6
   have := AnyZ.keys_gives (ρ := ρk) { LK with } Fence.wide 2 trivial rfl (by omega) b m es.size D W j d F
   intro l' J W' Q O R L
   refine CallsIn.mono (this l' J W' Q O (by rw [u]; exact R) L) ?_
   rintro e w' ⟨hv, i, hp, hj⟩
   refine ⟨hv, i, ?_, hj⟩
   rw [fI]
   exact hp.trans q
 have cS := AnyZ.sorted_in LT Fence.wide 5 trivial trivial trivial trivial rfl (by omega) s es (ρk.f 10) #[.pointer (some ⟨b, 0, none⟩)] trivial eg _ l.length (by unfold maxLen; omega) Y W I
 refine dY (callsIn_wide.1 cS) ?_
 rintro e w' ⟨v, i, rfl, hS, G, a8, a⟩
 have hs := Jd hS
 have hlen : i.length = (vU (l.map (·.1))).length := by
  have := bM List.length hs
  simpa using this
 have n : (i.mergeSort (fun x y => decide (x ≤ y))).map encStr = ((vU (l.map (·.1))).map ul).flatten := by
  rw [hs, Ro, fI]
  refine List.map_congr_left (fun x _ => ?_)
  simp only [Function.comp, encStr]
 rcases G.2 with ⟨rfl, L⟩ | ⟨g, cap, A, rfl, k, hg, aa, Z, a1, a7⟩
 ·have : vU (l.map (·.1)) = [] := aU (by omega)
  rw [this]
  exact ⟨_, [], rfl, vd.Jq ⟨a.os, a.tape, a.output, fun h => (by cases h), a.size, fun b z => a.block b z⟩ (fun _ _ h => by cases h) (by simp), lA.nil _ _ _⟩
 ·refine ⟨_, [(g, .cells A (ρt.t 26) (0, 0))], rfl, vd.Jq ⟨a.os, a.tape, a.output, fun h => (by cases h), a.size, fun b z => a.block b z⟩ (fun b o h => by simp at h; obtain ⟨rfl, rfl⟩ := h; exact ⟨hg, k⟩) (by simp), .inr ⟨g, cap, A, by rw [hlen], rfl, by omega, Z, a1, ?_⟩⟩
  rw [← hlen, a7, n]
end
end Go.Proofs.YtklbhegeiijbjaaGreat
namespace Go.Proofs.YtklbhegeiijbjaaGreat
def iG := @Tryz.underlying9
def iT := @Tryz.zeroValue9
def js := @Tryz.underlying0
def jz := @Tryz.zeroValue0
def jG := @Tryz.sizeOf9
def jK := @Tryz.underlying261
def jP := @Tryz.isAgg9
def jQ := @Tryz.zeroValue261
def kd := @Tryz.underlying4
def kh := @Tryz.sizeOf0
def kp := @Tryz.zeroValue4
def kv := @Tryz.isAgg0
def NF : Go.Shelf.Ren := ⟨fun | 6 => 114 | 15 => 177 | 14 => 176 | 28 => 238 | 29 => 239 | 20 => 230 | 21 => 231 | 22 => 232 | 23 => 233 | 24 => 234 | 25 => 235 | 26 => 236 | 27 => 237 | 46 => 277 | 47 => 278 | 48 => 279 | 49 => 280 | 50 => 281 | 57 => 317 | n => n, fun | 22 => 28 | 24 => 52 | 25 => 177 | 3 => 3 | 39 => 232 | 0 => 0 | 53 => 284 | 55 => 235 | 4 => 4 | 46 => 277 | 45 => 276 | 50 => 281 | 5 => 5 | 9 => 9 | 66 => 310 | 70 => 314 | 76 => 343 | 77 => 200 | n => n, fun | n => n⟩
theorem Rq : Go.Proofs.SlLaysF0.n6 Tryz.prog NF := {
 mixed := by kernel_rfl,
 f6 := ⟨Tryz.f114.name, by decide, Tryz.func114.trans (bM some (by kernel_rfl))⟩,
 f14 := ⟨Tryz.f176.name, by decide, Tryz.func176.trans (bM some (by kernel_rfl))⟩,
 f15 := Tryz.func177.trans (bM some (by kernel_rfl)),
 f20 := ⟨Tryz.f230.name, by decide, Tryz.func230.trans (bM some (by kernel_rfl))⟩,
 f21 := ⟨Tryz.f231.name, by decide, Tryz.func231.trans (bM some (by kernel_rfl))⟩,
 f22 := ⟨Tryz.f232.name, by decide, Tryz.func232.trans (bM some (by kernel_rfl))⟩,
 f23 := ⟨Tryz.f233.name, by decide, Tryz.func233.trans (bM some (by kernel_rfl))⟩,
 f24 := ⟨Tryz.f234.name, by decide, Tryz.func234.trans (bM some (by kernel_rfl))⟩,
 f25 := ⟨Tryz.f235.name, by decide, Tryz.func235.trans (bM some (by kernel_rfl))⟩,
 f26 := ⟨Tryz.f236.name, by decide, Tryz.func236.trans (bM some (by kernel_rfl))⟩,
 f27 := ⟨Tryz.f237.name, by decide, Tryz.func237.trans (bM some (by kernel_rfl))⟩,
 f28 := Tryz.func238.trans (bM some (by kernel_rfl)),
 f29 := Tryz.func239.trans (bM some (by kernel_rfl)),
 f46 := ⟨Tryz.f277.name, by decide, Tryz.func277.trans (bM some (by kernel_rfl))⟩,
 f47 := Tryz.func278.trans (bM some (by kernel_rfl)),
 f48 := Tryz.func279.trans (bM some (by kernel_rfl)),
 f49 := ⟨Tryz.f280.name, by decide, Tryz.func280.trans (bM some (by kernel_rfl))⟩,
 f50 := ⟨Tryz.f281.name, by decide, Tryz.func281.trans (bM some (by kernel_rfl))⟩,
 f57 := ⟨Tryz.f317.name, by decide, Tryz.func317.trans (bM some (by kernel_rfl))⟩,
 t0 := js,
 a0 := kv,
 z0 := kh,
 v0 := jz,
 t3 := Tryz.underlying3,
 a3 := Tryz.isAgg3,
 z3 := Tryz.sizeOf3,
 v3 := Tryz.zeroValue3,
 t4 := kd,
 a4 := Tryz.isAgg4,
 z4 := Tryz.sizeOf4,
 v4 := kp,
 t5 := Tryz.underlying5,
 a5 := Tryz.isAgg5,
 z5 := Tryz.sizeOf5,
 v5 := Tryz.zeroValue5,
 t9 := iG,
 a9 := jP,
 z9 := jG,
 v9 := iT,
 t22 := Tryz.underlying28,
 a22 := Tryz.isAgg28,
 z22 := Tryz.sizeOf28,
 v22 := Tryz.zeroValue28,
 t25 := Tryz.underlying177,
 a25 := Tryz.isAgg177,
 z25 := Tryz.sizeOf177,
 v25 := Tryz.zeroValue177,
 t39 := Tryz.underlying232,
 a39 := Tryz.isAgg232,
 z39 := Tryz.sizeOf232,
 v39 := Tryz.zeroValue232,
 t45 := Tryz.underlying276,
 a45 := Tryz.isAgg276,
 z45 := Tryz.sizeOf276,
 v45 := Tryz.zeroValue276,
 t46 := Tryz.underlying277,
 a46 := Tryz.isAgg277,
 z46 := Tryz.sizeOf277,
 v46 := Tryz.zeroValue277,
 t50 := Tryz.underlying281,
 a50 := Tryz.isAgg281,
 z50 := Tryz.sizeOf281,
 v50 := Tryz.zeroValue281,
 t53 := Tryz.underlying284,
 a53 := Tryz.isAgg284,
 z53 := Tryz.sizeOf284,
 v53 := Tryz.zeroValue284,
 t55 := Tryz.underlying235,
 a55 := Tryz.isAgg235,
 z55 := Tryz.sizeOf235,
 v55 := Tryz.zeroValue235,
 t66 := Tryz.underlying310,
 a66 := Tryz.isAgg310,
 z66 := Tryz.sizeOf310,
 v66 := Tryz.zeroValue310,
 t70 := Tryz.underlying314,
 a70 := Tryz.isAgg314,
 z70 := Tryz.sizeOf314,
 v70 := Tryz.zeroValue314,
 t76 := Tryz.underlying343,
 a76 := Tryz.isAgg343,
 z76 := Tryz.sizeOf343,
 v76 := Tryz.zeroValue343,
 t77 := Tryz.underlying200,
 a77 := Tryz.isAgg200,
 z77 := Tryz.sizeOf200,
 v77 := Tryz.zeroValue200}
def Ry : Go.Shelf.Ren := ⟨fun | 6 => 310 | 8 => 177 | 9 => 332 | 19 => 238 | 20 => 239 | 21 => 345 | 22 => 346 | 23 => 347 | 24 => 348 | 25 => 349 | 26 => 350 | 27 => 351 | 28 => 352 | 29 => 353 | 36 => 360 | 31 => 278 | 32 => 279 | 37 => 361 | 38 => 362 | 39 => 363 | 41 => 366 | n => n, fun | 27 => 261 | 29 => 9 | 3 => 3 | 32 => 232 | 26 => 261 | 0 => 0 | 44 => 284 | 46 => 235 | 4 => 4 | 36 => 277 | 35 => 276 | 41 => 281 | 5 => 5 | 9 => 9 | 53 => 310 | 57 => 314 | 63 => 343 | 64 => 200 | n => n, fun | n => n⟩
theorem RT : Go.Proofs.SlLaysM.n6 Tryz.prog Ry := {
 mixed := by kernel_rfl,
 f6 := ⟨Tryz.f310.name, by decide, Tryz.func310.trans (bM some (by kernel_rfl))⟩,
 f8 := Tryz.func177.trans (bM some (by kernel_rfl)),
 f9 := ⟨Tryz.f332.name, by decide, Tryz.func332.trans (bM some (by kernel_rfl))⟩,
 f19 := Tryz.func238.trans (bM some (by kernel_rfl)),
 f20 := Tryz.func239.trans (bM some (by kernel_rfl)),
 f21 := ⟨Tryz.f345.name, by decide, Tryz.func345.trans (bM some (by kernel_rfl))⟩,
 f22 := ⟨Tryz.f346.name, by decide, Tryz.func346.trans (bM some (by kernel_rfl))⟩,
 f23 := ⟨Tryz.f347.name, by decide, Tryz.func347.trans (bM some (by kernel_rfl))⟩,
 f24 := ⟨Tryz.f348.name, by decide, Tryz.func348.trans (bM some (by kernel_rfl))⟩,
 f25 := ⟨Tryz.f349.name, by decide, Tryz.func349.trans (bM some (by kernel_rfl))⟩,
 f26 := ⟨Tryz.f350.name, by decide, Tryz.func350.trans (bM some (by kernel_rfl))⟩,
 f27 := ⟨Tryz.f351.name, by decide, Tryz.func351.trans (bM some (by kernel_rfl))⟩,
 f28 := ⟨Tryz.f352.name, by decide, Tryz.func352.trans (bM some (by kernel_rfl))⟩,
 f29 := ⟨Tryz.f353.name, by decide, Tryz.func353.trans (bM some (by kernel_rfl))⟩,
 f31 := Tryz.func278.trans (bM some (by kernel_rfl)),
 f32 := Tryz.func279.trans (bM some (by kernel_rfl)),
 f36 := ⟨Tryz.f360.name, by decide, Tryz.func360.trans (bM some (by kernel_rfl))⟩,
 f37 := ⟨Tryz.f361.name, by decide, Tryz.func361.trans (bM some (by kernel_rfl))⟩,
 f38 := ⟨Tryz.f362.name, by decide, Tryz.func362.trans (bM some (by kernel_rfl))⟩,
 f39 := ⟨Tryz.f363.name, by decide, Tryz.func363.trans (bM some (by kernel_rfl))⟩,
 f41 := ⟨Tryz.f366.name, by decide, Tryz.func366.trans (bM some (by kernel_rfl))⟩,
 t0 := js,
 a0 := kv,
 z0 := kh,
 v0 := jz,
 t3 := Tryz.underlying3,
 a3 := Tryz.isAgg3,
 z3 := Tryz.sizeOf3,
 v3 := Tryz.zeroValue3,
 t4 := kd,
 a4 := Tryz.isAgg4,
 z4 := Tryz.sizeOf4,
 v4 := kp,
 t5 := Tryz.underlying5,
 a5 := Tryz.isAgg5,
 z5 := Tryz.sizeOf5,
 v5 := Tryz.zeroValue5,
 t9 := iG,
 a9 := jP,
 z9 := jG,
 v9 := iT,
 t26 := jK,
 a26 := Tryz.isAgg261,
 z26 := Tryz.sizeOf261,
 v26 := jQ,
 t27 := jK,
 a27 := Tryz.isAgg261,
 z27 := Tryz.sizeOf261,
 v27 := jQ,
 t29 := iG,
 a29 := jP,
 z29 := jG,
 v29 := iT,
 t32 := Tryz.underlying232,
 a32 := Tryz.isAgg232,
 z32 := Tryz.sizeOf232,
 v32 := Tryz.zeroValue232,
 t35 := Tryz.underlying276,
 a35 := Tryz.isAgg276,
 z35 := Tryz.sizeOf276,
 v35 := Tryz.zeroValue276,
 t36 := Tryz.underlying277,
 a36 := Tryz.isAgg277,
 z36 := Tryz.sizeOf277,
 v36 := Tryz.zeroValue277,
 t41 := Tryz.underlying281,
 a41 := Tryz.isAgg281,
 z41 := Tryz.sizeOf281,
 v41 := Tryz.zeroValue281,
 t44 := Tryz.underlying284,
 a44 := Tryz.isAgg284,
 z44 := Tryz.sizeOf284,
 v44 := Tryz.zeroValue284,
 t46 := Tryz.underlying235,
 a46 := Tryz.isAgg235,
 z46 := Tryz.sizeOf235,
 v46 := Tryz.zeroValue235,
 t53 := Tryz.underlying310,
 a53 := Tryz.isAgg310,
 z53 := Tryz.sizeOf310,
 v53 := Tryz.zeroValue310,
 t57 := Tryz.underlying314,
 a57 := Tryz.isAgg314,
 z57 := Tryz.sizeOf314,
 v57 := Tryz.zeroValue314,
 t63 := Tryz.underlying343,
 a63 := Tryz.isAgg343,
 z63 := Tryz.sizeOf343,
 v63 := Tryz.zeroValue343,
 t64 := Tryz.underlying200,
 a64 := Tryz.isAgg200,
 z64 := Tryz.sizeOf200,
 v64 := Tryz.zeroValue200}
def Qm : Go.Shelf.Ren := ⟨fun | 7 => 283 | 10 => 319 | n => n, fun | 23 => 190 | 26 => 9 | 3 => 4 | 28 => 318 | 0 => 0 | 27 => 317 | 33 => 128 | 4 => 4 | n => n, fun | n => n⟩
theorem Q5 : Go.Proofs.SlLaysZ.n7 Tryz.prog Qm := {
 mixed := by kernel_rfl,
 f7 := ⟨Tryz.f283.name, by decide, Tryz.func283.trans (bM some (by kernel_rfl))⟩,
 f10 := ⟨Tryz.f319.name, by decide, Tryz.func319.trans (bM some (by kernel_rfl))⟩,
 t0 := js,
 a0 := kv,
 z0 := kh,
 v0 := jz,
 t4 := kd,
 a4 := Tryz.isAgg4,
 z4 := Tryz.sizeOf4,
 v4 := kp,
 t23 := Tryz.underlying190,
 a23 := Tryz.isAgg190,
 z23 := Tryz.sizeOf190,
 v23 := Tryz.zeroValue190,
 t26 := iG,
 a26 := jP,
 z26 := jG,
 v26 := iT,
 t27 := Tryz.underlying317,
 a27 := Tryz.isAgg317,
 z27 := Tryz.sizeOf317,
 v27 := Tryz.zeroValue317,
 t28 := Tryz.underlying318,
 a28 := Tryz.isAgg318,
 z28 := Tryz.sizeOf318,
 v28 := Tryz.zeroValue318,
 t33 := Tryz.underlying128,
 a33 := Tryz.isAgg128,
 z33 := Tryz.sizeOf128,
 v33 := Tryz.zeroValue128}
def QG : Go.Shelf.Ren := ⟨fun | 6 => 282 | 8 => 318 | 9 => 310 | 11 => 337 | 13 => 177 | 12 => 332 | 23 => 238 | 24 => 239 | 14 => 345 | 15 => 346 | 16 => 347 | 17 => 348 | 18 => 349 | 19 => 350 | 20 => 351 | 21 => 352 | 22 => 353 | 25 => 360 | 26 => 278 | 27 => 279 | 28 => 361 | 29 => 362 | 30 => 363 | 31 => 366 | n => n, fun | 26 => 9 | 28 => 318 | 24 => 261 | 0 => 0 | 3 => 3 | 37 => 232 | 48 => 284 | 50 => 235 | 4 => 4 | 40 => 277 | 39 => 276 | 45 => 281 | 5 => 5 | 9 => 9 | 51 => 310 | 55 => 314 | 57 => 343 | 58 => 200 | 33 => 128 | n => n, fun | n => n⟩
theorem Q2 : Go.Proofs.SlLaysZ.n6 Tryz.prog QG := {
 mixed := by kernel_rfl,
 f6 := ⟨Tryz.f282.name, by decide, Tryz.func282.trans (bM some (by kernel_rfl))⟩,
 f8 := ⟨Tryz.f318.name, by decide, Tryz.func318.trans (bM some (by kernel_rfl))⟩,
 f11 := ⟨Tryz.f337.name, by decide, Tryz.func337.trans (bM some (by kernel_rfl))⟩,
 t0 := js,
 a0 := kv,
 z0 := kh,
 v0 := jz,
 t24 := jK,
 a24 := Tryz.isAgg261,
 z24 := Tryz.sizeOf261,
 v24 := jQ,
 t26 := iG,
 a26 := jP,
 z26 := jG,
 v26 := iT,
 t28 := Tryz.underlying318,
 a28 := Tryz.isAgg318,
 z28 := Tryz.sizeOf318,
 v28 := Tryz.zeroValue318,
 i26 := by kernel_rfl}
end Go.Proofs.YtklbhegeiijbjaaGreat
namespace Go.Proofs.YtklbhegeiijbjaaGreat
open Go.RowKit
set_option maxRecDepth 10000
noncomputable section
structure kC where
 kD : ByteArray
 kJ : ByteArray
def kQ (x : kC) : List Value := [.string x.kD, .string x.kJ]
def lu (x y : kC) : Bool := (mu x.kD y.kD) && ((mu x.kJ y.kJ) && true)
theorem lx {x y : kC} : lu x y = true ↔ x = y := by
 cases x; cases y; simp [lu, nm]
theorem ya (x : kC) : (kQ x).length = 2 := rfl
theorem wX (x : kC) : ∀ u ∈ kQ x, u.oneCell' = true := by
 intro u hu
 simp only [kQ, aQ, dL, gQ] at hu
 rcases hu with rfl | rfl <;> rfl
structure kE where
 Kind : Int
 Head : kC
 lZ : ByteArray
 B : kC
 C : kC
 mc : ByteArray
def kK (x : kE) : List Value := [.int .i64 x.Kind, .string x.Head.kD, .string x.Head.kJ, .string x.lZ, .string x.B.kD, .string x.B.kJ, .string x.C.kD, .string x.C.kJ, .string x.mc]
def nc (x y : kE) : Bool := (x.Kind == y.Kind) && ((lu x.Head y.Head) && ((mu x.lZ y.lZ) && ((lu x.B y.B) && ((lu x.C y.C) && ((mu x.mc y.mc) && true)))))
theorem ol {x y : kE} : nc x y = true ↔ x = y := by
 cases x; cases y; simp [nc, nm, lx]
theorem mE (x : kE) : (kK x).length = 9 := rfl
theorem oP (x : kE) : ∀ u ∈ kK x, u.oneCell' = true := by
 intro u hu
 simp only [kK, aQ, dL, gQ] at hu
 rcases hu with rfl | rfl | rfl | rfl | rfl | rfl | rfl | rfl | rfl <;> rfl
structure kZ where
 kC : kC
 lZ : ByteArray
def lV (x : kZ) : List Value := [.string x.kC.kD, .string x.kC.kJ, .string x.lZ]
def Bz (x y : kZ) : Bool := (lu x.kC y.kC) && ((mu x.lZ y.lZ) && true)
theorem wR {x y : kZ} : Bz x y = true ↔ x = y := by
 cases x; cases y; simp [Bz, nm, lx]
theorem qU (x : kZ) : (lV x).length = 3 := rfl
theorem Ae (x : kZ) : ∀ u ∈ lV x, u.oneCell' = true := by
 intro u hu
 simp only [lV, aQ, dL, gQ] at hu
 rcases hu with rfl | rfl | rfl <;> rfl
structure mN where
 oG : Int
 oI : Int
def nY (x : mN) : List Value := [.int .i64 x.oG, .int .i64 x.oI]
def zw (x y : mN) : Bool := (x.oG == y.oG) && ((x.oI == y.oI) && true)
theorem Io {x y : mN} : zw x y = true ↔ x = y := by
 cases x; cases y; simp [zw, nm]
theorem zN (x : mN) : (nY x).length = 2 := rfl
theorem Ha (x : mN) : ∀ u ∈ nY x, u.oneCell' = true := by
 intro u hu
 simp only [nY, aQ, dL, gQ] at hu
 rcases hu with rfl | rfl <;> rfl
structure mg where
 e : Int
def mS (x : mg) : List Value := [.int .i64 x.e]
structure mA where
 Pv : Bool
def nF (x : mA) : List Value := [.bool x.Pv]
structure Key where
 lZ : ByteArray
 Key : List Int
structure Signed where
 kE : kE
 Tag : List Int
structure Formula where
 Op : Int
 K : Int
 kC : kC
 Kids : List Formula
structure ll where
 Signed : Signed
 kH : Formula
structure nE where
 kC : kC
 kH : Formula
 na : List kE
structure lI where
 Name : ByteArray
 kO : List ll
 lg : List nE
structure mw where
 kD : lI
 Client : lI
 Formula : Formula
 nZ : Int
 mh : mN
 my : Int
 nx : Int
 mU : Int
 Keys : List Key
def pB (a0 : ByteArray) (a : Int) : Option Int :=
 some (yh a0 a)
def sL (a0 : ByteArray) (a : Int) : Option Int :=
 ((pB a0 a).bind fun b => some b)
def vT  : List Int → Option Bool
 | [] => some true
 | d :: a => ((sL (⟨#[97, 98, 99, 100, 101, 102, 103, 104, 105, 106, 107, 108, 109, 110, 111, 112, 113, 114, 115, 116, 117, 118, 119, 120, 121, 122, 48, 49, 50, 51, 52, 53, 54, 55, 56, 57, 45]⟩ : ByteArray) d).bind fun b => (if (decide (b < 0)) then some false else (vT a)))
def CD (a0 : ByteArray) : Option Bool :=
 ((Dw a0).bind fun a => vT a)
def tF (a0 : ByteArray) : Option Bool :=
 (((if (decide ((a0.size : Int) ≥ 1)) then some (decide ((a0.size : Int) ≤ 16)) else some false) : Option Bool).bind fun x2 => (((if x2 then ((Bj a0 0).bind fun a => ((sL (⟨#[97, 98, 99, 100, 101, 102, 103, 104, 105, 106, 107, 108, 109, 110, 111, 112, 113, 114, 115, 116, 117, 118, 119, 120, 121, 122]⟩ : ByteArray) (a.toNat : Int)).bind fun d => some (decide (d ≥ 0)))) else some false) : Option Bool).bind fun g => (((if g then ((CD a0).bind fun b => some b) else some false) : Option Bool).bind fun h => some h)))
def vl (a0 : List Int) : Option (List Int) :=
 ((nJ 1 ([]) a0).bind fun a => some a)
def re (a0 : kC) : Option Bool :=
 ((tF a0.kD).bind fun d => (((if d then ((tF a0.kJ).bind fun a => some a) else some false) : Option Bool).bind fun b => some b))
def oK (a0 a : ByteArray) : Option Int :=
 some (qi a0 a)
def qC (a0 a : ByteArray) : Option Int :=
 ((oK a0 a).bind fun b => some b)
def tJ  : List Int → Option Int
 | [] => some 0
 | a :: b => (if (a != 0) then some a else (tJ b))
def vM (a0 : List Int) : Option Int :=
 tJ a0
def sW (a0 g : kC) : Option Int :=
 ((qC a0.kD g.kD).bind fun a => ((qC a0.kJ g.kJ).bind fun b => ((vM ([a, b])).bind fun d => some d)))
def uO (a0 : kE) : Option Bool :=
 ((re a0.Head).bind fun y => (((if (a0.Kind == 1) then (((if y then ((tF a0.lZ).bind fun b => some b) else some false) : Option Bool).bind fun p => some (Sum.inr (p, (⟨a0.Kind, a0.Head, a0.lZ, (⟨zS, zS⟩ : kC), (⟨zS, zS⟩ : kC), zS⟩ : kE)))) else (if (a0.Kind == 2) then (((if y then ((re a0.B).bind fun d => some d) else some false) : Option Bool).bind fun q => some (Sum.inr (q, (⟨a0.Kind, a0.Head, zS, a0.B, (⟨zS, zS⟩ : kC), zS⟩ : kE)))) else (if (a0.Kind == 3) then (((if y then ((re a0.B).bind fun h => some h) else some false) : Option Bool).bind fun r => (((if r then some (mu a0.B.kD a0.Head.kD) else some false) : Option Bool).bind fun t => (((if t then ((tF a0.mc).bind fun g => some g) else some false) : Option Bool).bind fun u => some (Sum.inr (u, (⟨a0.Kind, a0.Head, zS, a0.B, (⟨zS, zS⟩ : kC), a0.mc⟩ : kE)))))) else (if (a0.Kind == 4) then (((if y then ((re a0.B).bind fun k => some k) else some false) : Option Bool).bind fun v => (((if v then ((re a0.C).bind fun j => some j) else some false) : Option Bool).bind fun w => (((if w then ((sW a0.B a0.C).bind fun i => some (decide (i < 0))) else some false) : Option Bool).bind fun x => some (Sum.inr (x, (⟨a0.Kind, a0.Head, zS, a0.B, a0.C, zS⟩ : kE)))))) else some (Sum.inl false))))) : Option (Bool ⊕ (Bool × kE))).bind fun s => match s with | .inl a => some a | .inr (l, m) => (((if l then some (nc m a0) else some false) : Option Bool).bind fun n => some n)))
def ra  : Nat → Int → (List Int) → Option (Bool × (List Int))
 | 0, _, _ => none
 | h + 1, a, d => (if (decide (a ≥ 128)) then ((nJ 1 d ([(IntKind.u8.wrap (BitVec.ofInt (IntKind.bits .u8) (IntKind.u8.wrap a) ||| BitVec.ofInt (IntKind.bits .u8) 128).toNat)])).bind fun g => (ra h (Int.fdiv a (2 ^ min (Int.toNat 7) (IntKind.bits .i64))) g)) else ((nJ 1 d ([(IntKind.u8.wrap a)])).bind fun b => some (true, b)))
def pe (a : List Int) (b : Int) : Option (Bool × (List Int)) :=
 (if (decide (b < 0)) then some (false, a) else ra lB b a)
def yu (a b : List Int) : Option (Bool × (List Int)) :=
 (if (decide ((b.length : Int) > 2048)) then some (false, a) else ((pe a (b.length : Int)).bind fun g => ((nJ 1 g.2 b).bind fun d => some (true, d))))
def uN (a : List Int) (i : ByteArray) : Option (Bool × (List Int)) :=
 ((tF i).bind fun j => (((if j then ((Dw i).bind fun g => ((yu a g).bind fun b => some (b.1, b.2))) else some (false, a)) : Option (Bool × (List Int))).bind fun (h, d) => some (h, d)))
def rc (a : List Int) (h : kC) : Option (Bool × (List Int)) :=
 ((re h).bind fun l => (((if l then ((uN a h.kD).bind fun g => some (g.1, g.2)) else some (false, a)) : Option (Bool × (List Int))).bind fun (j, b) => (((if j then ((uN b h.kJ).bind fun d => some (d.1, d.2)) else some (false, b)) : Option (Bool × (List Int))).bind fun (k, i) => some (k, i))))
def uM (a : List Int) : Option (List Int) :=
 ((vl a).bind fun b => some b)
def xF (a0 : kE) : Option (List Int) :=
 ((uO a0).bind fun m => (if (!m) then some [] else ((pe ([]) a0.Kind).bind fun n => ((rc n.2 a0.Head).bind fun a => (((if (a0.Kind == 1) then ((uN a.2 a0.lZ).bind fun g => some g.2) else (if (a0.Kind == 2) then ((rc a.2 a0.B).bind fun h => some h.2) else (if (a0.Kind == 3) then ((rc a.2 a0.B).bind fun i => ((uN i.2 a0.mc).bind fun j => some j.2)) else (if (a0.Kind == 4) then ((rc a.2 a0.B).bind fun k => ((rc k.2 a0.C).bind fun l => some l.2)) else some a.2)))) : Option (List Int)).bind fun b => ((uM b).bind fun d => some d))))))
def sK (a0 : List kE) : Option (List kE) :=
 ((nJ 136 ([]) a0).bind fun a => some a)
def pF (f1 : kE → Option Bool) : List kE → Nat → Option Int
 | [], _ => some (-1)
 | d :: a, i35 => ((f1 d).bind fun b => (if b then some (i35 : Int) else (pF f1 a (i35 + 1))))
def vc (a0 : List kE) (f1 : kE → Option Bool) : Option Int :=
 pF f1 a0 0
def oL (f1 : kE → Option Bool) : Nat → (List kE) → Int → Int → Option (List kE)
 | 0, _, _, _ => none
 | n321 + 1, b, a, d => (if (decide (d < (b.length : Int))) then ((((mQ b d).bind fun g => ((f1 g).bind fun i => (if (!i) then ((mQ b a).bind fun k => some ((b.set (Int.toNat a) g), (IntKind.i64.wrap (a + 1)))) else some (b, a)))) : Option ((List kE) × Int)).bind fun (h, j) => (oL f1 n321 h j (IntKind.i64.wrap (d + 1)))) else ((rb (decide (0 ≤ a) && decide (a ≤ (b.length : Int)))).bind fun _ => ((rb (decide (0 ≤ a) && decide (a ≤ ((ph b (Int.toNat a) (⟨0, (⟨zS, zS⟩ : kC), zS, (⟨zS, zS⟩ : kC), (⟨zS, zS⟩ : kC), zS⟩ : kE)).length : Int)))).bind fun _ => some ((ph b (Int.toNat a) (⟨0, (⟨zS, zS⟩ : kC), zS, (⟨zS, zS⟩ : kC), (⟨zS, zS⟩ : kC), zS⟩ : kE)).take (Int.toNat a)))))
def rX (a0 : List kE) (f1 : kE → Option Bool) : Option (List kE) :=
 ((vc a0 f1).bind fun a => (if (a == (-1)) then some a0 else oL f1 lB a0 a (IntKind.i64.wrap (a + 1))))
def yN (a0 : kE) : Option Bool :=
 ((uO a0).bind fun a => some (!a))
def xq (a0 a : List Int) : Option Int :=
 some (ze a0 a)
def uC (a0 g : kE) : Option Int :=
 ((xF a0).bind fun a => ((xF g).bind fun b => ((xq a b).bind fun d => some d)))
def pj (b : Int) : Nat → (List kE) → Int → Int → Option ((List kE) × Int)
 | 0, _, _, _ => none
 | i + 1, a, d, g => (if (decide (g < ((a.length - (Int.toNat b) : Nat) : Int))) then ((((mQ (a.drop (Int.toNat b)) g).bind fun k => ((mQ (a.drop (Int.toNat b)) (IntKind.i64.wrap (g - 1))).bind fun l => (if (!(nc k l)) then ((mQ (a.drop (Int.toNat b)) g).bind fun m => ((mQ a d).bind fun n => some ((a.set (Int.toNat d) m), (IntKind.i64.wrap (d + 1))))) else some (a, d)))) : Option ((List kE) × Int)).bind fun (h, j) => (pj b i h j (IntKind.i64.wrap (g + 1)))) else some (a, d))
def pq (a0 : List kE) : Nat → Int → Option (List kE)
 | 0, _ => none
 | g + 1, a => (if (decide (a < (a0.length : Int))) then ((mQ a0 a).bind fun h => ((mQ a0 (IntKind.i64.wrap (a - 1))).bind fun i => (if (nc h i) then ((rb (decide (0 ≤ a) && decide (a ≤ (a0.length : Int)))).bind fun _ => ((pj a lB a0 a 1 : Option ((List kE) × Int)).bind fun (d, b) => ((rb (decide (0 ≤ b) && decide (b ≤ (d.length : Int)))).bind fun _ => ((rb (decide (0 ≤ b) && decide (b ≤ ((ph d (Int.toNat b) (⟨0, (⟨zS, zS⟩ : kC), zS, (⟨zS, zS⟩ : kC), (⟨zS, zS⟩ : kC), zS⟩ : kE)).length : Int)))).bind fun _ => some ((ph d (Int.toNat b) (⟨0, (⟨zS, zS⟩ : kC), zS, (⟨zS, zS⟩ : kC), (⟨zS, zS⟩ : kC), zS⟩ : kE)).take (Int.toNat b)))))) else (pq a0 g (IntKind.i64.wrap (a + 1)))))) else some a0)
def tM (a0 : List kE) : Option (List kE) :=
 (if (decide ((a0.length : Int) < 2)) then some a0 else pq a0 lB 1)
def zI (a0 : List kE) : Option (List kE) :=
 ((sK a0).bind fun g => ((rX g (fun (x : kE) => yN x)).bind fun a => ((AF (fun (x : (kE × kE)) => uC x.1 x.2) a).bind fun b => ((tM b).bind fun d => some d))))
def qY (d : kE) : List kE → Nat → Option Int
 | [], _ => some (-1)
 | b :: a, i46 => (if (nc d b) then some (i46 : Int) else (qY d a (i46 + 1)))
def xc (a0 : List kE) (a : kE) : Option Int :=
 qY a a0 0
def tk (a0 : List kE) (a : kE) : Option Bool :=
 ((xc a0 a).bind fun b => some (decide (b ≥ 0)))
def wA (a0 : List kE) (a : kE) : Option Bool :=
 ((tk a0 a).bind fun b => some b)
def zB (a0 : kE) : Option (List kC) :=
 ((uO a0).bind fun h => (if (!h) then some [] else (((if (a0.Kind != 1) then ((nJ 32 ([a0.Head]) ([a0.B])).bind fun g => some g) else some ([a0.Head])) : Option (List kC)).bind fun a => (((if (a0.Kind == 4) then ((nJ 32 a ([a0.C])).bind fun d => some d) else some a) : Option (List kC)).bind fun b => some b))))
def py (i : kE) (a : List (ByteArray × (List kE))) (g : List kE) : List kC → (List (kC × (List kE))) → Option ((List kE) × (List (kC × (List kE))) × (List (ByteArray × (List kE))))
 | [], b => (if (i.Kind == 3) then ((nJ 136 ((mG mu a i.mc).getD []) ([i])).bind fun k => some (g, b, (pk mu a i.mc k))) else some (g, b, a))
 | d :: h, b => ((nJ 136 ((mG lu b d).getD []) ([i])).bind fun j => (py i a g h (pk lu b d j)))
def ur (i : List (kC × (List (ByteArray × Bool)))) (a : List kE) (d : List (kC × (List kE))) (b : List (ByteArray × (List kE))) (g : List kZ) (l : Int) (j : kE) : Option ((List kE) × (List (kC × (List kE))) × (List (ByteArray × (List kE)))) :=
 ((nJ 136 a ([j])).bind fun k => ((zB j).bind fun h => ((rb (decide (0 ≤ 1) && decide (1 ≤ (h.length : Int)))).bind fun _ => py j b k (h.drop (Int.toNat 1)) d)))
def oT (a : List (kC × (List (ByteArray × Bool)))) (g : List kE) (i : List (kC × (List kE))) (h : List (ByteArray × (List kE))) (b : List kZ) (d : Int) (j : kC) (a2 : ByteArray) : Option ((List (kC × (List (ByteArray × Bool)))) × (List kZ) × Int) :=
 (if (AG mu ((mG lu a j).getD []) a2 false) then some (a, b, d) else (((if (mG lu a j).isNone then ((GI lu a j ([])).bind fun k => some k) else some a) : Option (List (kC × (List (ByteArray × Bool))))).bind fun l => ((Gp lu mu l j a2 true).bind fun m => ((nJ 48 b ([(⟨j, a2⟩ : kZ)])).bind fun n => some (m, n, (IntKind.i64.wrap (d + 1)))))))
def pG (a0 : List (ByteArray × Bool)) : Option Unit :=
 some ()
def rF (a : List (kC × (List (ByteArray × Bool)))) (b : List kE) (h : List (kC × (List kE))) (d : List (ByteArray × (List kE))) (g : List kZ) (j : Int) (k : kC) : Option (List ByteArray) :=
 ((pG ((mG lu a k).getD [])).bind fun l => ((GR ((mG lu a k).getD [])).bind fun i => some i))
def qZ (a : List kE) (d : List (kC × (List kE))) (b : List (ByteArray × (List kE))) (a2 : kC) : List ByteArray → (List (kC × (List (ByteArray × Bool)))) → (List kZ) → Int → Option ((List (kC × (List (ByteArray × Bool)))) × (List kZ) × Int)
 | [], g, h, j => some (g, h, j)
 | l :: k, g, h, j => ((oT g a d b h j a2 l).bind fun i => (qZ a d b a2 k i.1 i.2.1 i.2.2))
def uX (h : List (kC × (List (ByteArray × Bool)))) (a : List kE) (g : List (kC × (List kE))) (b : List (ByteArray × (List kE))) (d : List kZ) (i : Int) (j a2 : kC) : Option ((List (kC × (List (ByteArray × Bool)))) × (List kZ) × Int) :=
 ((rF h a g b d i j).bind fun k => qZ a g b a2 k h d i)
def sG (a : List (kC × (List (ByteArray × Bool)))) (d : List kE) (h : List (kC × (List kE))) (g : List (ByteArray × (List kE))) (b : List kZ) (i : Int) (j : kE) (a2 : kZ) : Option ((List (kC × (List (ByteArray × Bool)))) × (List kZ) × Int) :=
 (if (j.Kind == 2) then ((oT a d h g b i j.Head a2.lZ).bind fun m => some (m.1, m.2.1, m.2.2)) else (if (j.Kind == 3) then ((uX a d h g b i (⟨a2.lZ, j.mc⟩ : kC) j.Head).bind fun k => some (k.1, k.2.1, k.2.2)) else (if (j.Kind == 4) then (((if (AG mu ((mG lu a j.B).getD []) a2.lZ false) then some (AG mu ((mG lu a j.C).getD []) a2.lZ false) else some false) : Option Bool).bind fun n => (if n then ((oT a d h g b i j.Head a2.lZ).bind fun l => some (l.1, l.2.1, l.2.2)) else some (a, b, i))) else some (a, b, i))))
def qf (a : List kE) (d : List (kC × (List kE))) (b : List (ByteArray × (List kE))) (m : kE) : List ByteArray → (List (kC × (List (ByteArray × Bool)))) → (List kZ) → Int → Option ((List (kC × (List (ByteArray × Bool)))) × (List kZ) × Int)
 | [], g, h, j => some (g, h, j)
 | l :: k, g, h, j => ((sG g a d b h j m (⟨m.B, l⟩ : kZ)).bind fun i => (qf a d b m k i.1 i.2.1 i.2.2))
def tK (h : List (kC × (List (ByteArray × Bool)))) (a : List kE) (g : List (kC × (List kE))) (b : List (ByteArray × (List kE))) (d : List kZ) (i : Int) (j : kE) : Option ((List (kC × (List (ByteArray × Bool)))) × (List kZ) × Int) :=
 (if (j.Kind == 1) then ((oT h a g b d i j.Head j.lZ).bind fun l => some (l.1, l.2.1, l.2.2)) else ((rF h a g b d i j.B).bind fun k => qf a g b j k h d i))
def oZ (i : kZ) (a : List kE) (d : List (kC × (List kE))) (b : List (ByteArray × (List kE))) : List kE → (List (kC × (List (ByteArray × Bool)))) → (List kZ) → Int → Option ((List (kC × (List (ByteArray × Bool)))) × (List kZ) × Int)
 | [], g, h, j => some (g, h, j)
 | m :: l, g, h, j => (if (AG mu ((mG lu g m.B).getD []) i.kC.kD false) then ((oT g a d b h j m.Head i.lZ).bind fun k => (oZ i a d b l k.1 k.2.1 k.2.2)) else (oZ i a d b l g h j))
def pT (a : List kE) (d : List (kC × (List kE))) (b : List (ByteArray × (List kE))) (k : kZ) : List kE → (List (kC × (List (ByteArray × Bool)))) → (List kZ) → Int → Option ((List (kC × (List (ByteArray × Bool)))) × (List kZ) × Int)
 | [], g, h, j => some (g, h, j)
 | m :: l, g, h, j => ((sG g a d b h j m k).bind fun i => (pT a d b k l i.1 i.2.1 i.2.2))
def oy (d : List kE) (b : List (kC × (List kE))) (a : List (ByteArray × (List kE))) : Nat → (List (kC × (List (ByteArray × Bool)))) → (List kZ) → Int → Option ((List (kC × (List (ByteArray × Bool)))) × (List kZ) × Int)
 | 0, _, _, _ => none
 | p + 1, i, g, j => (if (decide ((g.length : Int) > 0)) then ((mQ g 0).bind fun h => ((rb (decide (0 ≤ 1) && decide (1 ≤ (g.length : Int)))).bind fun _ => ((pT d b a h ((mG lu b h.kC).getD []) i (g.drop (Int.toNat 1)) j : Option ((List (kC × (List (ByteArray × Bool)))) × (List kZ) × Int)).bind fun (k, l, q) => ((oZ h d b a ((mG mu a h.kC.kJ).getD []) k l q : Option ((List (kC × (List (ByteArray × Bool)))) × (List kZ) × Int)).bind fun (m, n, r) => (oy d b a p m n r))))) else some (i, g, j))
def vB (h : List (kC × (List (ByteArray × Bool)))) (a : List kE) (g : List (kC × (List kE))) (b : List (ByteArray × (List kE))) (d : List kZ) (i : Int) : Option ((List (kC × (List (ByteArray × Bool)))) × (List kZ) × Int) :=
 oy a g b lB h d i
def oX (m : Int) : List kE → (List (kC × (List (ByteArray × Bool)))) → (List kE) → (List (kC × (List kE))) → (List (ByteArray × (List kE))) → (List kZ) → Int → Option (Int × (List (kC × (List (ByteArray × Bool)))) × (List kE) × (List (kC × (List kE))) × (List (ByteArray × (List kE))) × (List kZ) × Int)
 | [], d, a, g, h, i, j => ((vB d a g h i j).bind fun k => some ((IntKind.i64.wrap (k.2.2 - m)), k.1, a, g, h, k.2.1, k.2.2))
 | l :: p, d, a, g, h, i, j => ((uO l).bind fun q => (((if q then ((wA a l).bind fun r => some (!r)) else some false) : Option Bool).bind fun s => (if s then ((ur d a g h i j l).bind fun b => ((tK d b.1 b.2.1 b.2.2 i j l).bind fun n => (oX m p n.1 b.1 b.2.1 b.2.2 n.2.1 n.2.2))) else (oX m p d a g h i j))))
def uW (h : List (kC × (List (ByteArray × Bool)))) (a : List kE) (g : List (kC × (List kE))) (b : List (ByteArray × (List kE))) (d : List kZ) (i : Int) (j : List kE) : Option (Int × (List (kC × (List (ByteArray × Bool)))) × (List kE) × (List (kC × (List kE))) × (List (ByteArray × (List kE))) × (List kZ) × Int) :=
 oX i j h a g b d i
def xQ (a0 : List kE) : Option ((List (kC × (List (ByteArray × Bool)))) × (List kE) × (List (kC × (List kE))) × (List (ByteArray × (List kE))) × (List kZ) × Int) :=
 ((uW ([]) ([]) ([]) ([]) ([]) 0 a0).bind fun a => some (a.2.1, a.2.2.1, a.2.2.2.1, a.2.2.2.2.1, a.2.2.2.2.2.1, a.2.2.2.2.2.2))
def rf (a0 g : kZ) : Option Int :=
 ((sW a0.kC g.kC).bind fun a => ((qC a0.lZ g.lZ).bind fun b => ((vM ([a, b])).bind fun d => some d)))
def xb (d : List (kC × (List (ByteArray × Bool)))) (g : List kE) (j : List (kC × (List kE))) (h : List (ByteArray × (List kE))) (i : List kZ) (l : Int) : Option (List kZ) :=
 ((Oh 48 (fun (a : kC) (b : ByteArray) => (⟨a, b⟩ : kZ)) d).bind fun fs => E3 fs (fun k => ((AF (fun (x : (kZ × kZ)) => rf x.1 x.2) k).bind fun m => some m)))
def uL (a : List (kC × (List (ByteArray × Bool)))) (b : List kE) (h : List (kC × (List kE))) (d : List (ByteArray × (List kE))) (g : List kZ) (i : Int) (j : kC) (a2 : ByteArray) : Option Bool :=
 some (AG mu ((mG lu a j).getD []) a2 false)
def sN  : List kE → Int → Option Int
 | [], b => some b
 | a :: d, b => (sN d (IntKind.i64.wrap (b + (IntKind.i64.wrap ((IntKind.i64.wrap ((IntKind.i64.wrap ((IntKind.i64.wrap ((IntKind.i64.wrap ((IntKind.i64.wrap ((IntKind.i64.wrap ((IntKind.i64.wrap (20 + (a.Head.kD.size : Int))) + (a.Head.kJ.size : Int))) + (a.lZ.size : Int))) + (a.B.kD.size : Int))) + (a.B.kJ.size : Int))) + (a.C.kD.size : Int))) + (a.C.kJ.size : Int))) + (a.mc.size : Int))))))
def wE (a0 : List kE) : Option Int :=
 sN a0 0
def sS  : List Signed → Int → Option Int
 | [], a => some a
 | b :: d, a => ((wE ([b.kE])).bind fun g => (sS d (IntKind.i64.wrap (a + (IntKind.i64.wrap (g + (b.Tag.length : Int)))))))
def rz (h : List Signed) : List Key → Int → Option Int
 | [], a => ((sS h a : Option Int).bind fun b => some b)
 | d :: g, a => (rz h g (IntKind.i64.wrap (a + (IntKind.i64.wrap ((IntKind.i64.wrap (10 + (d.lZ.size : Int))) + (d.Key.length : Int))))))
def vj (a0 : List Key) (a : List Signed) : Option Int :=
 rz a a0 0
def rr (a0 : ByteArray) : Nat → Int → Option Bool
 | 0, _ => none
 | d + 1, b => (if (decide (b < (a0.size : Int))) then ((Bj a0 b).bind fun a => (((if (decide ((a.toNat : Int) < 97)) then some true else some (decide ((a.toNat : Int) > 122))) : Option Bool).bind fun g => (((if g then (((if (decide ((a.toNat : Int) < 48)) then some true else some (decide ((a.toNat : Int) > 57))) : Option Bool).bind fun j => some j) else some false) : Option Bool).bind fun h => (((if h then some ((a.toNat : Int) != 45) else some false) : Option Bool).bind fun i => (if i then some false else (rr a0 d (IntKind.i64.wrap (b + 1)))))))) else some true)
def sn (a0 : ByteArray) : Option Bool :=
 (((if (mu a0 zS) then some true else some (decide ((a0.size : Int) > 16))) : Option Bool).bind fun x2 => (((if x2 then some true else ((Bj a0 0).bind fun b => some (decide ((b.toNat : Int) < 97)))) : Option Bool).bind fun d => (((if d then some true else ((Bj a0 0).bind fun a => some (decide ((a.toNat : Int) > 122)))) : Option Bool).bind fun g => (if g then some false else rr a0 lB 0))))
def tW (a0 : kC) : Option Bool :=
 ((sn a0.kD).bind fun d => (((if d then ((sn a0.kJ).bind fun a => some a) else some false) : Option Bool).bind fun b => some b))
def xB (a0 a : kC) : Option Bool :=
 (((if (rj a0.kD a.kD) then some true else (((if (mu a0.kD a.kD) then some (rj a0.kJ a.kJ) else some false) : Option Bool).bind fun d => some d)) : Option Bool).bind fun b => some b)
def wM (a0 : kE) : Option Bool :=
 ((tW a0.Head).bind fun t => (if (!t) then some false else (if (a0.Kind == 1) then ((sn a0.lZ).bind fun i => (((if i then some (lu a0.B (⟨zS, zS⟩ : kC)) else some false) : Option Bool).bind fun k => (((if k then some (lu a0.C (⟨zS, zS⟩ : kC)) else some false) : Option Bool).bind fun l => (((if l then some (mu a0.mc zS) else some false) : Option Bool).bind fun m => some m)))) else (((if (!(mu a0.lZ zS)) then some true else ((tW a0.B).bind fun d => some (!d))) : Option Bool).bind fun n => (if n then some false else (if (a0.Kind == 2) then (((if (lu a0.C (⟨zS, zS⟩ : kC)) then some (mu a0.mc zS) else some false) : Option Bool).bind fun p => some p) else (if (a0.Kind == 3) then (((if (lu a0.C (⟨zS, zS⟩ : kC)) then some (mu a0.B.kD a0.Head.kD) else some false) : Option Bool).bind fun q => (((if q then ((sn a0.mc).bind fun j => some j) else some false) : Option Bool).bind fun r => some r)) else (((if (a0.Kind == 4) then some (mu a0.mc zS) else some false) : Option Bool).bind fun s => (((if s then ((tW a0.C).bind fun b => some b) else some false) : Option Bool).bind fun g => (((if g then ((xB a0.B a0.C).bind fun a => some a) else some false) : Option Bool).bind fun h => some h))))))))))
def ui  : Nat → Int → ByteArray → Option ByteArray
 | 0, _, _ => none
 | n45 + 1, a, b => (if (decide (a ≥ 128)) then ((xz b (CB ([(IntKind.u8.wrap (IntKind.i64.wrap (128 + (Int.tmod a 128))))]))).bind fun d => (ui n45 (IntKind.i64.wrap (Int.tdiv a 128)) d)) else ((xz b (CB ([(IntKind.u8.wrap a)]))).bind fun g => some g))
def rG (a0 : Int) : Option ByteArray :=
 ui lB a0 zS
def uR (a0 : ByteArray) : Option ByteArray :=
 ((rG (a0.size : Int)).bind fun a => ((xz a a0).bind fun b => some b))
def tY (a0 : kC) : Option ByteArray :=
 ((uR a0.kD).bind fun a => ((uR a0.kJ).bind fun b => ((xz a b).bind fun d => some d)))
def Bb (a0 : kE) : Option ByteArray :=
 ((rG a0.Kind).bind fun g => ((tY a0.Head).bind fun h => ((xz g h).bind fun a => (if (a0.Kind == 1) then ((uR a0.lZ).bind fun i => ((xz a i).bind fun m => some m)) else ((tY a0.B).bind fun j => ((xz a j).bind fun b => (((if (a0.Kind == 3) then ((uR a0.mc).bind fun l => ((xz b l).bind fun p => some p)) else some b) : Option ByteArray).bind fun d => (((if (a0.Kind == 4) then ((tY a0.C).bind fun k => ((xz d k).bind fun n => some n)) else some d) : Option ByteArray).bind fun q => some q))))))))
def wD (a0 : kE) : Option ByteArray :=
 ((wM a0).bind fun a => (if (!a) then some zS else ((Bb a0).bind fun b => some b)))
def tO (a0 d : kE) : Option Int :=
 ((wD a0).bind fun a => ((wD d).bind fun b => (if (rj a b) then some (-1) else (if (!(rj a b || mu a b)) then some 1 else some 0))))
def sQ (a : List kE) : List kE → Bool → kE → Option (Bool × kE)
 | [], d, g => some (d, g)
 | b :: h, d, g => ((wM b).bind fun i => (((if i then (((if ((a.length : Int) == 0) then some true else ((mQ a (IntKind.i64.wrap ((a.length : Int) - 1))).bind fun q => ((tO q b).bind fun k => some (decide (k < 0))))) : Option Bool).bind fun p => some p) else some false) : Option Bool).bind fun l => (((if l then (((if (!d) then some true else ((tO b g).bind fun j => some (decide (j < 0)))) : Option Bool).bind fun n => some n) else some false) : Option Bool).bind fun m => (if m then (sQ a h true b) else (sQ a h d g)))))
def uB (a0 : List kE) : Nat → (List kE) → Option (List kE)
 | 0, _ => none
 | d + 1, a => ((sQ a a0 false (⟨0, (⟨zS, zS⟩ : kC), zS, (⟨zS, zS⟩ : kC), (⟨zS, zS⟩ : kC), zS⟩ : kE) : Option (Bool × kE)).bind fun (g, h) => (if (!g) then some a else ((nJ 136 a ([h])).bind fun b => (uB a0 d b))))
def yG (a0 : List kE) : Option (List kE) :=
 uB a0 lB ([])
def qO (g : List kE) : List kE → Nat → Option Bool
 | [], _ => some true
 | d :: b, i90 => ((mQ g (i90 : Int)).bind fun a => (if (!(nc d a)) then some false else (qO g b (i90 + 1))))
def rW (a0 a : List kE) : Option Bool :=
 (if ((a0.length : Int) != (a.length : Int)) then some false else qO a a0 0)
def xT (d : kE) : List kE → Option Bool
 | [] => some false
 | b :: a => (if (nc b d) then some true else (xT d a))
def AE (a0 : List kE) (a : kE) : Option Bool :=
 xT a a0
def sX (a : List ByteArray) : List ByteArray → ByteArray → Option ByteArray
 | [], d => some d
 | b :: g, d => ((sn b).bind fun i => (((if i then (((if ((a.length : Int) == 0) then some true else ((mQ a (IntKind.i64.wrap ((a.length : Int) - 1))).bind fun h => some (!(rj b h || mu b h)))) : Option Bool).bind fun m => some m) else some false) : Option Bool).bind fun j => (((if j then (((if (mu d zS) then some true else some (rj b d)) : Option Bool).bind fun l => some l) else some false) : Option Bool).bind fun k => (if k then (sX a g b) else (sX a g d)))))
def uD (a0 : List ByteArray) : Nat → (List ByteArray) → Option (List ByteArray)
 | 0, _ => none
 | g + 1, a => ((sX a a0 zS : Option ByteArray).bind fun b => (if (mu b zS) then some a else ((nJ 16 a ([b])).bind fun d => (uD a0 g d))))
def Au (a0 : List ByteArray) : Option (List ByteArray) :=
 uD a0 lB ([])
def te  : List kE → (List ByteArray) → Option (List ByteArray)
 | [], b => ((Au b).bind fun g => some g)
 | a :: h, b => ((nJ 16 b ([a.lZ, a.Head.kD, a.B.kD, a.C.kD])).bind fun d => (te h d))
def yJ (a0 : List kE) : Option (List ByteArray) :=
 te a0 ([])
def wB (g : kC) (a2 : ByteArray) : List kZ → Option Bool
 | [] => some false
 | b :: d => (((if (lu b.kC g) then some (mu b.lZ a2) else some false) : Option Bool).bind fun a => (if a then some true else (wB g a2 d)))
def vt (a0 : List kZ) (a : kC) (a2 : ByteArray) : Option Bool :=
 wB a a2 a0
def vp (a0 : List kZ) (i : kE) (a3 : ByteArray) : List ByteArray → Option Bool
 | [] => some false
 | a :: b => ((vt a0 i.B a).bind fun d => (((if d then ((vt a0 (⟨a, i.mc⟩ : kC) a3).bind fun g => some g) else some false) : Option Bool).bind fun h => (if h then some true else (vp a0 i a3 b))))
def zM (a0 : List kZ) (a : kE) (a2 : List ByteArray) (a3 : ByteArray) : Option Bool :=
 (if (a.Kind == 1) then some (mu a.lZ a3) else (if (a.Kind == 2) then ((vt a0 a.B a3).bind fun g => some g) else (if (a.Kind == 4) then ((vt a0 a.B a3).bind fun h => (((if h then ((vt a0 a.C a3).bind fun b => some b) else some false) : Option Bool).bind fun d => some d)) else vp a0 a a3 a2)))
def uG (a0 a : kZ) : Option Bool :=
 ((xB a0.kC a.kC).bind fun g => (((if g then some true else (((if (lu a0.kC a.kC) then some (rj a0.lZ a.lZ) else some false) : Option Bool).bind fun d => some d)) : Option Bool).bind fun b => some b))
def pO (b a0 : List kZ) : List kZ → Nat → Int → Option Int
 | [], _, a => some a
 | h :: g, d, a => (((if ((b.length : Int) == 0) then some true else ((mQ b (IntKind.i64.wrap ((b.length : Int) - 1))).bind fun p => ((uG p h).bind fun j => some j))) : Option Bool).bind fun k => (((if k then (((if (decide (a < 0)) then some true else ((mQ a0 a).bind fun n => ((uG h n).bind fun i => some i))) : Option Bool).bind fun m => some m) else some false) : Option Bool).bind fun l => (if l then (pO b a0 g (d + 1) (d : Int)) else (pO b a0 g (d + 1) a))))
def pL (a0 : List kZ) : List kZ → (List kZ) → Option (List kZ)
 | [], a => some a
 | i :: d, a => ((pO a a0 a0 0 (-1) : Option Int).bind fun b => (if (decide (b ≥ 0)) then ((mQ a0 b).bind fun h => ((nJ 48 a ([h])).bind fun g => (pL a0 d g))) else (pL a0 d a)))
def Am (a0 : List kZ) : Option (List kZ) :=
 pL a0 a0 ([])
def vk (b : kE) (m : List ByteArray) : List ByteArray → (List kZ) → Bool → Option ((List kZ) × Bool)
 | [], a, g => some (a, g)
 | d :: h, a, g => ((vt a b.Head d).bind fun j => (((if (!j) then ((zM a b m d).bind fun k => some k) else some false) : Option Bool).bind fun l => (if l then ((nJ 48 a ([(⟨b.Head, d⟩ : kZ)])).bind fun i => (vk b m h i true)) else (vk b m h a g))))
def wO (j : List ByteArray) : List kE → (List kZ) → Bool → Option ((List kZ) × Bool)
 | [], a, b => some (a, b)
 | h :: d, a, b => ((vk h j j a b : Option ((List kZ) × Bool)).bind fun (g, i) => (wO j d g i))
def vg (i : List ByteArray) (j : List kE) : Nat → (List kZ) → Option (List kZ)
 | 0, _ => none
 | b + 1, h => ((wO i j h false : Option ((List kZ) × Bool)).bind fun (a, g) => (if (!g) then ((Am a).bind fun d => some d) else (vg i j b a)))
def wj (a0 : List kE) : Option (List kZ) :=
 ((yG a0).bind fun b => ((yJ b).bind fun a => vg a b lB ([])))
def vR (a0 : List kE) (b : ByteArray) : Option ((List (kC × (List (ByteArray × Bool)))) × (List kE) × (List (kC × (List kE))) × (List (ByteArray × (List kE))) × (List kZ) × Int × ByteArray) :=
 ((xQ a0).bind fun a => some (a.1, a.2.1, a.2.2.1, a.2.2.2.1, a.2.2.2.2.1, a.2.2.2.2.2, b))
def ov (f1 : ll → Option Bool) : List ll → Nat → Option Int
 | [], _ => some (-1)
 | d :: a, i47 => ((f1 d).bind fun b => (if b then some (i47 : Int) else (ov f1 a (i47 + 1))))
def tZ (a0 : List ll) (f1 : ll → Option Bool) : Option Int :=
 ov f1 a0 0
def xh (a0 : ll) (a : kE) : Option Bool :=
 some (nc a0.Signed.kE a)
def zy (a0 : lI) (d : kE) : Option (ll × Bool) :=
 ((tZ a0.kO (fun (x : ll) => xh x d)).bind fun a => (if (decide (a < 0)) then some ((⟨(⟨(⟨0, (⟨zS, zS⟩ : kC), zS, (⟨zS, zS⟩ : kC), (⟨zS, zS⟩ : kC), zS⟩ : kE), []⟩ : Signed), (⟨0, 0, (⟨zS, zS⟩ : kC), []⟩ : Formula)⟩ : ll), false) else ((mQ a0.kO a).bind fun b => some (b, true))))
def vu (a0 : List nE) : Option (List nE) :=
 ((nJ 128 ([]) a0).bind fun a => some a)
def pa (f1 : nE → Option Bool) : List nE → Nat → Option Int
 | [], _ => some (-1)
 | d :: a, i47 => ((f1 d).bind fun b => (if b then some (i47 : Int) else (pa f1 a (i47 + 1))))
def vH (a0 : List nE) (f1 : nE → Option Bool) : Option Int :=
 pa f1 a0 0
def oQ (f1 : nE → Option Bool) : Nat → (List nE) → Int → Int → Option (List nE)
 | 0, _, _, _ => none
 | i + 1, b, a, d => (if (decide (d < (b.length : Int))) then ((((mQ b d).bind fun g => ((f1 g).bind fun j => (if (!j) then ((mQ b a).bind fun l => some ((b.set (Int.toNat a) g), (IntKind.i64.wrap (a + 1)))) else some (b, a)))) : Option ((List nE) × Int)).bind fun (h, k) => (oQ f1 i h k (IntKind.i64.wrap (d + 1)))) else ((rb (decide (0 ≤ a) && decide (a ≤ (b.length : Int)))).bind fun _ => ((rb (decide (0 ≤ a) && decide (a ≤ ((ph b (Int.toNat a) (⟨(⟨zS, zS⟩ : kC), (⟨0, 0, (⟨zS, zS⟩ : kC), []⟩ : Formula), []⟩ : nE)).length : Int)))).bind fun _ => some ((ph b (Int.toNat a) (⟨(⟨zS, zS⟩ : kC), (⟨0, 0, (⟨zS, zS⟩ : kC), []⟩ : Formula), []⟩ : nE)).take (Int.toNat a)))))
def sC (a0 : List nE) (f1 : nE → Option Bool) : Option (List nE) :=
 ((vH a0 f1).bind fun a => (if (a == (-1)) then some a0 else oQ f1 lB a0 a (IntKind.i64.wrap (a + 1))))
def tf (a0 : nE) (a : kE) : Option Bool :=
 ((wA a0.na a).bind fun b => some (!b))
def yQ (a0 : lI) (b : kE) : Option (List nE) :=
 ((vu a0.lg).bind fun d => ((sC d (fun (x : nE) => tf x b)).bind fun a => some a))
def ql (h : Int) (rec : Formula → Int → Option (Int × Int)) : List Formula → Int → Int → Option (Int × Int)
 | [], a, d => some (a, d)
 | i :: g, a, d => (if (decide (a > h)) then some (a, d) else ((rec i (IntKind.i64.wrap (h - a))).bind fun b => (ql h rec g (IntKind.i64.wrap (a + b.1)) (if b.2 > d then b.2 else d))))
def wk (rec : Formula → Int → Option (Int × Int)) (a0 : Formula) (d : Int) : Option (Int × Int) :=
 ((ql d rec a0.Kids 1 0 : Option (Int × Int)).bind fun (a, b) => some (a, (IntKind.i64.wrap (b + 1))))
def pt : Nat → Formula → Int → Option (Int × Int)
 | 0 => fun _ _ => none
 | n + 1 => wk (pt n)
def xZ (a0 : Formula) : Option (Int × Int) :=
 ((pt lB a0 4096).bind fun a => (if (decide (a.1 > 4096)) then some (0, 0) else some (a.1, a.2)))
def xY (a0 : Formula) : Option Bool :=
 (if (a0.Op == 1) then ((re a0.kC).bind fun g => (((if g then some ((a0.Kids.length : Int) == 0) else some false) : Option Bool).bind fun h => (((if h then some (a0.K == 0) else some false) : Option Bool).bind fun i => some i))) else (((if (a0.Op == 2) then some (a0.Op == 2) else some (a0.Op == 3)) : Option Bool).bind fun j => (if j then (((if (lu a0.kC (⟨zS, zS⟩ : kC)) then some (a0.K == 0) else some false) : Option Bool).bind fun k => some k) else (((if (a0.Op == 4) then some (lu a0.kC (⟨zS, zS⟩ : kC)) else some false) : Option Bool).bind fun l => (((if l then some (decide (a0.K ≥ 0)) else some false) : Option Bool).bind fun a => (((if a then some (decide (a0.K ≤ (a0.Kids.length : Int))) else some false) : Option Bool).bind fun b => (((if b then some (decide ((a0.Kids.length : Int) ≥ 1)) else some false) : Option Bool).bind fun d => some d)))))))
def ow (f1 : Formula → Option Bool) : List Formula → Nat → Option Int
 | [], _ => some (-1)
 | d :: a, i41 => ((f1 d).bind fun b => (if b then some (i41 : Int) else (ow f1 a (i41 + 1))))
def tV (a0 : List Formula) (f1 : Formula → Option Bool) : Option Int :=
 ow f1 a0 0
def pc (a0 : List Formula) (f1 : Formula → Option Bool) : Option Bool :=
 ((tV a0 f1).bind fun a => some (decide (a ≥ 0)))
def vo (rec : Formula → Option Bool) (a0 : Formula) : Option Bool :=
 ((rec a0).bind fun a => some (!a))
def wo (rec : Formula → Option Bool) (a0 : Formula) : Option Bool :=
 ((xY a0).bind fun d => (((if d then some (decide ((a0.Kids.length : Int) ≤ 8)) else some false) : Option Bool).bind fun g => (((if g then ((pc a0.Kids (fun (x : Formula) => vo rec x)).bind fun a => some (!a)) else some false) : Option Bool).bind fun b => some b)))
def sh : Nat → Formula → Option Bool
 | 0 => fun _ => none
 | n + 1 => wo (sh n)
def sf (a0 : Formula) : Option Bool :=
 ((xZ a0).bind fun b => (((if (decide (b.1 ≥ 1)) then some (decide (b.1 ≤ 64)) else some false) : Option Bool).bind fun h => (((if h then some (decide (b.2 ≤ 6)) else some false) : Option Bool).bind fun d => (((if d then ((sh lB a0).bind fun a => some a) else some false) : Option Bool).bind fun g => some g))))
def uz (a0 : Formula) (a : Int) : Option Bool :=
 (((if (a0.Op == a) then some ((a0.Kids.length : Int) == 0) else some false) : Option Bool).bind fun x6 => some x6)
def zL  : Option Formula :=
 some (⟨2, 0, (⟨zS, zS⟩ : kC), []⟩ : Formula)
def Al  : Option Formula :=
 some (⟨3, 0, (⟨zS, zS⟩ : kC), []⟩ : Formula)
def rB (a0 : Int) : List Formula → (List Formula) → Option (List Formula)
 | [], a => some a
 | b :: d, a => (if (b.Op == a0) then ((nJ 72 a b.Kids).bind fun g => (rB a0 d g)) else ((nJ 72 a ([b])).bind fun h => (rB a0 d h)))
def Bi (a0 : Int) (a : List Formula) : Option (List Formula) :=
 rB a0 a ([])
def rI (a0 : Formula) (a : Int) : Option Bool :=
 ((uz a0 a).bind fun b => some b)
def tj (a0 : List Formula) : Option (List Formula) :=
 ((nJ 72 ([]) a0).bind fun a => some a)
def mX (p : Int) (f3 : (Formula × Formula) → Option Int) : Nat → (List Formula) → Int → Option (List Formula)
 | 0, _, _ => none
 | h + 1, b, a => (((if (decide (a > p)) then ((mQ b a).bind fun k => ((mQ b (IntKind.i64.wrap (a - 1))).bind fun l => ((f3 (k, l)).bind fun i => some (decide (i < 0))))) else some false) : Option Bool).bind fun j => (if j then ((mQ b (IntKind.i64.wrap (a - 1))).bind fun g => ((mQ b a).bind fun d => ((mQ b a).bind fun m => ((mQ (b.set (Int.toNat a) g) (IntKind.i64.wrap (a - 1))).bind fun n => (mX p f3 h ((b.set (Int.toNat a) g).set (Int.toNat (IntKind.i64.wrap (a - 1))) (⟨d.Op, d.K, d.kC, d.Kids⟩ : Formula)) (IntKind.i64.wrap (a - 1))))))) else some b))
def mM (a2 h : Int) (f3 : (Formula × Formula) → Option Int) : Nat → (List Formula) → Int → Option (List Formula)
 | 0, _, _ => none
 | g + 1, b, a => (if (decide (a < a2)) then ((mX h f3 lB b a : Option (List Formula)).bind fun d => (mM a2 h f3 g d (IntKind.i64.wrap (a + 1)))) else some b)
def oe (a0 : List Formula) (a a2 : Int) (f3 : (Formula × Formula) → Option Int) : Option (List Formula) :=
 mM a2 a f3 lB a0 (IntKind.i64.wrap (a + 1))
def nw (a3 a2 h : Int) : Nat → (List Formula) → Int → Option (List Formula)
 | 0, _, _ => none
 | i + 1, b, a => (if (decide (a < a3)) then ((mQ b (IntKind.i64.wrap (a2 + a))).bind fun g => ((mQ b (IntKind.i64.wrap (h + a))).bind fun d => ((mQ b (IntKind.i64.wrap (h + a))).bind fun j => ((mQ (b.set (Int.toNat (IntKind.i64.wrap (h + a))) g) (IntKind.i64.wrap (a2 + a))).bind fun k => (nw a3 a2 h i ((b.set (Int.toNat (IntKind.i64.wrap (h + a))) g).set (Int.toNat (IntKind.i64.wrap (a2 + a))) (⟨d.Op, d.K, d.kC, d.Kids⟩ : Formula)) (IntKind.i64.wrap (a + 1))))))) else some b)
def nX (a0 : List Formula) (a a2 a3 : Int) (f4 : (Formula × Formula) → Option Int) : Option (List Formula) :=
 nw a3 a2 a lB a0 0
def nH (a2 : Int) (f4 : (Formula × Formula) → Option Int) : Nat → (List Formula) → Int → Int → Option (List Formula)
 | 0, _, _, _ => none
 | n185 + 1, d, a, b => (if (a != b) then (if (decide (a > b)) then ((nX d (IntKind.i64.wrap (a2 - a)) a2 b f4).bind fun g => (nH a2 f4 n185 g (IntKind.i64.wrap (a - b)) b)) else ((nX d (IntKind.i64.wrap (a2 - a)) (IntKind.i64.wrap ((IntKind.i64.wrap (a2 + b)) - a)) a f4).bind fun h => (nH a2 f4 n185 h a (IntKind.i64.wrap (b - a))))) else ((nX d (IntKind.i64.wrap (a2 - a)) a2 a f4).bind fun i => some i))
def nT (a0 : List Formula) (a a2 a3 : Int) (f4 : (Formula × Formula) → Option Int) : Option (List Formula) :=
 nH a2 f4 lB a0 (IntKind.i64.wrap (a2 - a)) (IntKind.i64.wrap (a3 - a2))
def nA (h : Int) : Nat → (List Formula) → Int → Option (List Formula)
 | 0, _, _ => none
 | i + 1, b, a => (if (decide (a < (IntKind.i64.wrap (h - 1)))) then ((mQ b (IntKind.i64.wrap (a + 1))).bind fun g => ((mQ b a).bind fun d => ((mQ b a).bind fun j => ((mQ (b.set (Int.toNat a) g) (IntKind.i64.wrap (a + 1))).bind fun k => (nA h i ((b.set (Int.toNat a) g).set (Int.toNat (IntKind.i64.wrap (a + 1))) (⟨d.Op, d.K, d.kC, d.Kids⟩ : Formula)) (IntKind.i64.wrap (a + 1))))))) else some b)
def mD (a0 : List Formula) (j : Int) (f4 : (Formula × Formula) → Option Int) : Nat → Int → Int → Option (List Formula)
 | 0, _, _ => none
 | n325 + 1, a, b => (if (decide (a < b)) then ((mQ a0 (IntKind.i64.wrap (Int.fdiv (IntKind.u64.wrap (IntKind.i64.wrap (a + b))) (2 ^ min (Int.toNat 1) (IntKind.bits .u64))))).bind fun h => ((mQ a0 j).bind fun i => ((f4 (h, i)).bind fun g => (if (decide (g < 0)) then (mD a0 j f4 n325 (IntKind.i64.wrap ((IntKind.i64.wrap (Int.fdiv (IntKind.u64.wrap (IntKind.i64.wrap (a + b))) (2 ^ min (Int.toNat 1) (IntKind.bits .u64)))) + 1)) b) else (mD a0 j f4 n325 a (IntKind.i64.wrap (Int.fdiv (IntKind.u64.wrap (IntKind.i64.wrap (a + b))) (2 ^ min (Int.toNat 1) (IntKind.bits .u64))))))))) else ((nA a lB a0 j : Option (List Formula)).bind fun d => some d))
def nz (g : Int) : Nat → (List Formula) → Int → Option (List Formula)
 | 0, _, _ => none
 | i + 1, b, a => (if (decide (a > g)) then ((mQ b (IntKind.i64.wrap (a - 1))).bind fun h => ((mQ b a).bind fun d => ((mQ b a).bind fun j => ((mQ (b.set (Int.toNat a) h) (IntKind.i64.wrap (a - 1))).bind fun k => (nz g i ((b.set (Int.toNat a) h).set (Int.toNat (IntKind.i64.wrap (a - 1))) (⟨d.Op, d.K, d.kC, d.Kids⟩ : Formula)) (IntKind.i64.wrap (a - 1))))))) else some b)
def mF (a0 : List Formula) (a2 : Int) (f4 : (Formula × Formula) → Option Int) : Nat → Int → Int → Option (List Formula)
 | 0, _, _ => none
 | d + 1, a, b => (if (decide (a < b)) then ((mQ a0 a2).bind fun i => ((mQ a0 (IntKind.i64.wrap (Int.fdiv (IntKind.u64.wrap (IntKind.i64.wrap (a + b))) (2 ^ min (Int.toNat 1) (IntKind.bits .u64))))).bind fun j => ((f4 (i, j)).bind fun h => (if (!(decide (h < 0))) then (mF a0 a2 f4 d (IntKind.i64.wrap ((IntKind.i64.wrap (Int.fdiv (IntKind.u64.wrap (IntKind.i64.wrap (a + b))) (2 ^ min (Int.toNat 1) (IntKind.bits .u64)))) + 1)) b) else (mF a0 a2 f4 d a (IntKind.i64.wrap (Int.fdiv (IntKind.u64.wrap (IntKind.i64.wrap (a + b))) (2 ^ min (Int.toNat 1) (IntKind.bits .u64))))))))) else ((nz a lB a0 a2 : Option (List Formula)).bind fun g => some g))
def mn (a0 : List Formula) (d a3 a2 : Int) (f4 : (Formula × Formula) → Option Int) (rec : (List Formula) → Int → Int → Int → ((Formula × Formula) → Option Int) → Option (List Formula)) : Nat → Int → Int → Option (List Formula)
 | 0, _, _ => none
 | i + 1, a, b => (if (decide (a < b)) then ((mQ a0 (IntKind.i64.wrap ((IntKind.i64.wrap ((IntKind.i64.wrap ((IntKind.i64.wrap (Int.fdiv (IntKind.u64.wrap (IntKind.i64.wrap (d + a3))) (2 ^ min (Int.toNat 1) (IntKind.bits .u64)))) + a2)) - 1)) - (IntKind.i64.wrap (Int.fdiv (IntKind.u64.wrap (IntKind.i64.wrap (a + b))) (2 ^ min (Int.toNat 1) (IntKind.bits .u64))))))).bind fun n => ((mQ a0 (IntKind.i64.wrap (Int.fdiv (IntKind.u64.wrap (IntKind.i64.wrap (a + b))) (2 ^ min (Int.toNat 1) (IntKind.bits .u64))))).bind fun p => ((f4 (n, p)).bind fun j => (if (!(decide (j < 0))) then (mn a0 d a3 a2 f4 rec i (IntKind.i64.wrap ((IntKind.i64.wrap (Int.fdiv (IntKind.u64.wrap (IntKind.i64.wrap (a + b))) (2 ^ min (Int.toNat 1) (IntKind.bits .u64)))) + 1)) b) else (mn a0 d a3 a2 f4 rec i a (IntKind.i64.wrap (Int.fdiv (IntKind.u64.wrap (IntKind.i64.wrap (a + b))) (2 ^ min (Int.toNat 1) (IntKind.bits .u64))))))))) else (((((if (decide (a < a2)) then some (decide (a2 < (IntKind.i64.wrap ((IntKind.i64.wrap ((IntKind.i64.wrap (Int.fdiv (IntKind.u64.wrap (IntKind.i64.wrap (d + a3))) (2 ^ min (Int.toNat 1) (IntKind.bits .u64)))) + a2)) - a)))) else some false) : Option Bool).bind fun s => (if s then ((nT a0 a a2 (IntKind.i64.wrap ((IntKind.i64.wrap ((IntKind.i64.wrap (Int.fdiv (IntKind.u64.wrap (IntKind.i64.wrap (d + a3))) (2 ^ min (Int.toNat 1) (IntKind.bits .u64)))) + a2)) - a)) f4).bind fun m => some m) else some a0)) : Option (List Formula)).bind fun g => (((((if (decide (d < a)) then some (decide (a < (IntKind.i64.wrap (Int.fdiv (IntKind.u64.wrap (IntKind.i64.wrap (d + a3))) (2 ^ min (Int.toNat 1) (IntKind.bits .u64)))))) else some false) : Option Bool).bind fun r => (if r then ((rec g d a (IntKind.i64.wrap (Int.fdiv (IntKind.u64.wrap (IntKind.i64.wrap (d + a3))) (2 ^ min (Int.toNat 1) (IntKind.bits .u64)))) f4).bind fun l => some l) else some g)) : Option (List Formula)).bind fun h => (((if (decide ((IntKind.i64.wrap (Int.fdiv (IntKind.u64.wrap (IntKind.i64.wrap (d + a3))) (2 ^ min (Int.toNat 1) (IntKind.bits .u64)))) < (IntKind.i64.wrap ((IntKind.i64.wrap ((IntKind.i64.wrap (Int.fdiv (IntKind.u64.wrap (IntKind.i64.wrap (d + a3))) (2 ^ min (Int.toNat 1) (IntKind.bits .u64)))) + a2)) - a)))) then some (decide ((IntKind.i64.wrap ((IntKind.i64.wrap ((IntKind.i64.wrap (Int.fdiv (IntKind.u64.wrap (IntKind.i64.wrap (d + a3))) (2 ^ min (Int.toNat 1) (IntKind.bits .u64)))) + a2)) - a)) < a3)) else some false) : Option Bool).bind fun q => (if q then ((rec h (IntKind.i64.wrap (Int.fdiv (IntKind.u64.wrap (IntKind.i64.wrap (d + a3))) (2 ^ min (Int.toNat 1) (IntKind.bits .u64)))) (IntKind.i64.wrap ((IntKind.i64.wrap ((IntKind.i64.wrap (Int.fdiv (IntKind.u64.wrap (IntKind.i64.wrap (d + a3))) (2 ^ min (Int.toNat 1) (IntKind.bits .u64)))) + a2)) - a)) a3 f4).bind fun k => some k) else some h)))))
def pX (rec : (List Formula) → Int → Int → Int → ((Formula × Formula) → Option Int) → Option (List Formula)) (a0 : List Formula) (a a2 a3 : Int) (f4 : (Formula × Formula) → Option Int) : Option (List Formula) :=
 (if ((IntKind.i64.wrap (a2 - a)) == 1) then mD a0 a f4 lB a2 a3 else (if ((IntKind.i64.wrap (a3 - a2)) == 1) then mF a0 a2 f4 lB a a2 else (((if (decide (a2 > (IntKind.i64.wrap (Int.fdiv (IntKind.u64.wrap (IntKind.i64.wrap (a + a3))) (2 ^ min (Int.toNat 1) (IntKind.bits .u64)))))) then some ((IntKind.i64.wrap ((IntKind.i64.wrap ((IntKind.i64.wrap (Int.fdiv (IntKind.u64.wrap (IntKind.i64.wrap (a + a3))) (2 ^ min (Int.toNat 1) (IntKind.bits .u64)))) + a2)) - a3)), (IntKind.i64.wrap (Int.fdiv (IntKind.u64.wrap (IntKind.i64.wrap (a + a3))) (2 ^ min (Int.toNat 1) (IntKind.bits .u64))))) else some (a, a2)) : Option (Int × Int)).bind fun (b, d) => mn a0 a a3 a2 f4 rec lB b d)))
def mO : Nat → (List Formula) → Int → Int → Int → ((Formula × Formula) → Option Int) → Option (List Formula)
 | 0 => fun _ _ _ _ _ => none
 | n + 1 => pX (mO n)
def nG (j b : Int) (f2 : (Formula × Formula) → Option Int) : Nat → (List Formula) → Int → Int → Option ((List Formula) × Int)
 | 0, _, _, _ => none
 | h + 1, g, d, a => (if (decide (a ≤ j)) then ((mO lB g d (IntKind.i64.wrap (d + b)) a f2).bind fun i => (nG j b f2 h i a (IntKind.i64.wrap (a + (IntKind.i64.wrap (2 * b)))))) else some (g, d))
def nr (k : Int) (f2 : (Formula × Formula) → Option Int) : Nat → (List Formula) → Int → Option (List Formula)
 | 0, _, _ => none
 | i + 1, d, a => (if (decide (a < k)) then ((nG k a f2 lB d 0 (IntKind.i64.wrap (2 * a)) : Option ((List Formula) × Int)).bind fun (g, b) => (((if (decide ((IntKind.i64.wrap (b + a)) < k)) then ((mO lB g b (IntKind.i64.wrap (b + a)) k f2).bind fun j => some j) else some g) : Option (List Formula)).bind fun h => (nr k f2 i h (IntKind.i64.wrap (a * 2))))) else some d)
def nt (j : Int) (f2 : (Formula × Formula) → Option Int) : Nat → (List Formula) → Int → Int → Option (List Formula)
 | 0, _, _, _ => none
 | n123 + 1, d, i, a => (if (decide (a ≤ j)) then ((oe d i a f2).bind fun g => (nt j f2 n123 g a (IntKind.i64.wrap (a + 20)))) else ((oe d i j f2).bind fun h => ((nr j f2 lB h 20 : Option (List Formula)).bind fun b => some b)))
def sa (a0 : List Formula) (a : Int) (f2 : (Formula × Formula) → Option Int) : Option (List Formula) :=
 nt a f2 lB a0 0 20
def pI (a0 : List Formula) (f1 : (Formula × Formula) → Option Int) : Option (List Formula) :=
 ((sa a0 (a0.length : Int) f1).bind fun a => some a)
def rC (rec : (List Int) → Formula → Option (List Int)) : List Formula → (List Int) → Option (List Int)
 | [], a => some a
 | g :: b, a => ((rec a g).bind fun d => (rC rec b d))
def wz (rec : (List Int) → Formula → Option (List Int)) (b : List Int) (a : Formula) : Option (List Int) :=
 ((pe b a.Op).bind fun i => (if (a.Op == 1) then ((rc i.2 a.kC).bind fun h => some h.2) else (((if (a.Op == 4) then ((pe i.2 a.K).bind fun d => some d.2) else some i.2) : Option (List Int)).bind fun g => ((pe g (a.Kids.length : Int)).bind fun j => rC rec a.Kids j.2))))
def qN : Nat → (List Int) → Formula → Option (List Int)
 | 0 => fun _ _ => none
 | n + 1 => wz (qN n)
def xi (a : List Int) (b : Formula) : Option (Bool × (List Int)) :=
 ((sf b).bind fun d => (if (!d) then some (false, a) else ((qN lB a b).bind fun g => some (true, g))))
def uh (a0 : Formula) : Option (List Int) :=
 ((xi ([]) a0).bind fun b => ((uM b.2).bind fun a => some a))
def uc (a0 g : Formula) : Option Int :=
 ((uh a0).bind fun a => ((uh g).bind fun b => ((xq a b).bind fun d => some d)))
def vW (a0 : List Formula) : Option (List Formula) :=
 ((tj a0).bind fun b => ((pI b (fun (x : (Formula × Formula)) => uc x.1 x.2)).bind fun a => some a))
def nP (b : Int) (f1 : (Formula × Formula) → Option Bool) : Nat → (List Formula) → Int → Int → Option ((List Formula) × Int)
 | 0, _, _, _ => none
 | i + 1, a, d, g => (if (decide (g < ((a.length - (Int.toNat b) : Nat) : Int))) then ((((mQ (a.drop (Int.toNat b)) g).bind fun l => ((mQ (a.drop (Int.toNat b)) (IntKind.i64.wrap (g - 1))).bind fun m => ((f1 (l, m)).bind fun j => (if (!j) then ((mQ (a.drop (Int.toNat b)) g).bind fun n => ((mQ a d).bind fun p => some ((a.set (Int.toNat d) n), (IntKind.i64.wrap (d + 1))))) else some (a, d))))) : Option ((List Formula) × Int)).bind fun (h, k) => (nP b f1 i h k (IntKind.i64.wrap (g + 1)))) else some (a, d))
def nN (a0 : List Formula) (f1 : (Formula × Formula) → Option Bool) : Nat → Int → Option (List Formula)
 | 0, _ => none
 | g + 1, a => (if (decide (a < (a0.length : Int))) then ((mQ a0 a).bind fun i => ((mQ a0 (IntKind.i64.wrap (a - 1))).bind fun j => ((f1 (i, j)).bind fun h => (if h then ((rb (decide (0 ≤ a) && decide (a ≤ (a0.length : Int)))).bind fun _ => ((nP a f1 lB a0 a 1 : Option ((List Formula) × Int)).bind fun (d, b) => ((rb (decide (0 ≤ b) && decide (b ≤ (d.length : Int)))).bind fun _ => ((rb (decide (0 ≤ b) && decide (b ≤ ((ph d (Int.toNat b) (⟨0, 0, (⟨zS, zS⟩ : kC), []⟩ : Formula)).length : Int)))).bind fun _ => some ((ph d (Int.toNat b) (⟨0, 0, (⟨zS, zS⟩ : kC), []⟩ : Formula)).take (Int.toNat b)))))) else (nN a0 f1 g (IntKind.i64.wrap (a + 1))))))) else some a0)
def qv (a0 : List Formula) (f1 : (Formula × Formula) → Option Bool) : Option (List Formula) :=
 (if (decide ((a0.length : Int) < 2)) then some a0 else nN a0 f1 lB 1)
def mC (h : List Formula) (f2 : (Formula × Formula) → Option Bool) : List Formula → Nat → Option Bool
 | [], _ => some true
 | g :: d, i95 => ((mQ h (i95 : Int)).bind fun b => ((f2 (g, b)).bind fun a => (if (!a) then some false else (mC h f2 d (i95 + 1)))))
def nO (a0 a : List Formula) (f2 : (Formula × Formula) → Option Bool) : Option Bool :=
 (if ((a0.length : Int) != (a.length : Int)) then some false else mC a f2 a0 0)
def xa (rec : Formula → Formula → Option Bool) (a0 a : Formula) : Option Bool :=
 (((if (a0.Op == a.Op) then some (a0.K == a.K) else some false) : Option Bool).bind fun d => (((if d then some (lu a0.kC a.kC) else some false) : Option Bool).bind fun g => (((if g then ((nO a0.Kids a.Kids (fun (x : (Formula × Formula)) => rec x.1 x.2)).bind fun b => some b) else some false) : Option Bool).bind fun h => some h)))
def pg : Nat → Formula → Formula → Option Bool
 | 0 => fun _ _ => none
 | n + 1 => xa (pg n)
def pp (a0 : mg) (d : Int) (a2 : List Formula) : Option (Formula × mg) :=
 ((Bi d a2).bind fun j => ((pc j (fun (x : Formula) => rI x (IntKind.i64.wrap (5 - d)))).bind fun g => (if g then some ((⟨(IntKind.i64.wrap (5 - d)), 0, (⟨zS, zS⟩ : kC), []⟩ : Formula), a0) else ((vW j).bind fun h => ((qv h (fun (x : (Formula × Formula)) => pg lB x.1 x.2)).bind fun a => (((if (decide ((a.length : Int) > 64)) then some (⟨12⟩ : mg) else some a0) : Option mg).bind fun b => (if ((a.length : Int) == 1) then ((mQ a 0).bind fun i => some (i, b)) else some ((⟨d, 0, (⟨zS, zS⟩ : kC), a⟩ : Formula), b))))))))
def nL (a0 : mg) : List Formula → Int → (List Formula) → Option (Formula × mg)
 | [], b, a => (if (decide (b ≤ 0)) then (zL.bind fun m => some (m, a0)) else (if (decide (b > (a.length : Int))) then (Al.bind fun n => some (n, a0)) else (if (b == (a.length : Int)) then ((pp a0 2 a).bind fun h => some (h.1, h.2)) else (if (b == 1) then ((pp a0 3 a).bind fun i => some (i.1, i.2)) else ((vW a).bind fun p => some ((⟨4, b, (⟨zS, zS⟩ : kC), p⟩ : Formula), a0))))))
 | g :: d, b, a => ((uz g 2).bind fun k => (if k then (nL a0 d (IntKind.i64.wrap (b - 1)) a) else ((uz g 3).bind fun l => (if (!l) then ((nJ 72 a ([g])).bind fun j => (nL a0 d b j)) else (nL a0 d b a)))))
def rJ (a0 : mg) (a : Int) (a2 : List Formula) : Option (Formula × mg) :=
 nL a0 a2 a ([])
def oR (rec : mg → Formula → Option (Formula × mg)) (l : Formula) : List Formula → (List Formula) → mg → Option (Formula × mg)
 | [], a, b => (if (l.Op == 4) then ((rJ b l.K a).bind fun g => some (g.1, g.2)) else ((pp b l.Op a).bind fun h => some (h.1, h.2)))
 | k :: i, a, b => ((rec b k).bind fun d => ((nJ 72 a ([d.1])).bind fun j => (oR rec l i j d.2)))
def tb (rec : mg → Formula → Option (Formula × mg)) (a0 : mg) (a : Formula) : Option (Formula × mg) :=
 (if (a.Op == 1) then some (a, a0) else oR rec a a.Kids ([]) a0)
def oq : Nat → mg → Formula → Option (Formula × mg)
 | 0 => fun _ _ => none
 | n + 1 => tb (oq n)
def yF (a0 : Formula) : Option (Formula × Int) :=
 ((sf a0).bind fun g => (if (!g) then some ((⟨0, 0, (⟨zS, zS⟩ : kC), []⟩ : Formula), 11) else ((oq lB (⟨0⟩ : mg) a0).bind fun a => (((if (a.2.e != 0) then some true else ((sf a.1).bind fun b => some (!b))) : Option Bool).bind fun d => (if d then some ((⟨0, 0, (⟨zS, zS⟩ : kC), []⟩ : Formula), 12) else some (a.1, 0))))))
def yO (a0 b : Formula) : Option (Formula × Int) :=
 ((yF (⟨2, 0, (⟨zS, zS⟩ : kC), [a0, b]⟩ : Formula)).bind fun a => some (a.1, a.2))
def ux  : List Formula → Int → Int → Int → kC → (List Formula) → Option (Int × Int × Int × kC × (List Formula))
 | [], d, g, h, i, b => some (d, g, h, i, b)
 | k :: j, d, g, h, i, b => (if (d != 0) then some (d, g, h, i, b) else ((yO (⟨g, h, i, b⟩ : Formula) k).bind fun a => (ux j a.2 ((a.1).Op) ((a.1).K) ((a.1).kC) ((a.1).Kids))))
def wT (a0 : List Formula) : Option (Formula × Int) :=
 ((mQ a0 0).bind fun x6 => ((yF x6).bind fun a => ((rb (decide (0 ≤ 1) && decide (1 ≤ (a0.length : Int)))).bind fun _ => ((ux (a0.drop (Int.toNat 1)) a.2 ((a.1).Op) ((a.1).K) ((a.1).kC) ((a.1).Kids) : Option (Int × Int × Int × kC × (List Formula))).bind fun (b, g, h, i, d) => (if (b != 0) then some ((⟨0, 0, (⟨zS, zS⟩ : kC), []⟩ : Formula), b) else some ((⟨g, h, i, d⟩ : Formula), 0))))))
def ve  : List nE → (List Formula) → Option (Formula × Int)
 | [], a => ((wT a).bind fun b => some (b.1, b.2))
 | h :: d, a => ((nJ 72 a ([h.kH])).bind fun g => (ve d g))
def Bs (a0 : lI) (d : kE) : Option (Formula × Int) :=
 ((zy a0 d).bind fun a => (if (!a.2) then some ((⟨0, 0, (⟨zS, zS⟩ : kC), []⟩ : Formula), 42) else ((yQ a0 d).bind fun b => ve b ([(a.1).kH]))))
def qk (rec : Formula → (kC → Option Bool) → Option Bool) (f1 : kC → Option Bool) (a0 : Formula) : List Formula → Int → Option Bool
 | [], a => (if (a0.Op == 2) then some (a == (a0.Kids.length : Int)) else (if (a0.Op == 3) then some (decide (a > 0)) else some (decide (a ≥ a0.K))))
 | g :: b, a => ((rec g f1).bind fun d => (if d then (qk rec f1 a0 b (IntKind.i64.wrap (a + 1))) else (qk rec f1 a0 b a)))
def wm (rec : Formula → (kC → Option Bool) → Option Bool) (a0 : Formula) (f1 : kC → Option Bool) : Option Bool :=
 (if (a0.Op == 1) then ((f1 a0.kC).bind fun a => some a) else qk rec f1 a0 a0.Kids 0)
def qQ : Nat → Formula → (kC → Option Bool) → Option Bool
 | 0 => fun _ _ => none
 | n + 1 => wm (qQ n)
def vV (a0 : Formula) (f1 : kC → Option Bool) : Option Bool :=
 ((sf a0).bind fun d => (((if d then ((qQ lB a0 f1).bind fun a => some a) else some false) : Option Bool).bind fun b => some b))
def qR (a0 : kC) (h : List (kC × (List (ByteArray × Bool)))) (a : List kE) (g : List (kC × (List kE))) (b : List (ByteArray × (List kE))) (d : List kZ) (i : Int) (c1 : ByteArray) : Option Bool :=
 ((uL h a g b d i a0 c1).bind fun j => some j)
def rZ (a0 : lI) (d : ((List (kC × (List (ByteArray × Bool)))) × (List kE) × (List (kC × (List kE))) × (List (ByteArray × (List kE))) × (List kZ) × Int × ByteArray)) : List ll → (List kE) → Option (List kE)
 | [], a => ((zI a).bind fun j => some j)
 | g :: b, a => ((Bs a0 g.Signed.kE).bind fun r417 => (((if (r417.2 == 0) then ((vV r417.1 (fun (x : kC) => qR x d.1 d.2.1 d.2.2.1 d.2.2.2.1 d.2.2.2.2.1 d.2.2.2.2.2.1 d.2.2.2.2.2.2)).bind fun i => some i) else some false) : Option Bool).bind fun k => (if k then ((nJ 136 a ([g.Signed.kE])).bind fun h => (rZ a0 d b h)) else (rZ a0 d b a))))
def tD (a0 : lI) (a : List kE) (a2 : ByteArray) : Option (List kE) :=
 ((vR a a2).bind fun b => rZ a0 b a0.kO ([]))
def qp (a0 k : lI) : Nat → (List kE) → (List kE) → Int → Option ((List kE) × (List kE) × Int)
 | 0, _, _, _ => none
 | i + 1, a, b, h => ((tD a0 b k.Name).bind fun d => ((tD k a a0.Name).bind fun g => (((if ((d.length : Int) == (a.length : Int)) then some ((g.length : Int) == (b.length : Int)) else some false) : Option Bool).bind fun j => (if j then some (a, b, h) else (qp a0 k i d g (IntKind.i64.wrap (h + 1)))))))
def wS (a0 a : lI) : Option ((List kE) × (List kE) × Int) :=
 qp a0 a lB ([]) ([]) 0
def pK (a0 : List ll) : Option (List ll) :=
 ((nJ 232 ([]) a0).bind fun a => some a)
def sR (rec : (List Formula) → Option Int) : List Formula → Int → Option Int
 | [], b => some b
 | a :: g, b => ((rec a.Kids).bind fun d => (sR rec g (IntKind.i64.wrap (b + (IntKind.i64.wrap ((IntKind.i64.wrap (1 + (IntKind.i64.wrap (Int.tdiv (IntKind.i64.wrap ((a.kC.kD.size : Int) + (a.kC.kJ.size : Int))) 16)))) + d))))))
def xw (rec : (List Formula) → Option Int) (a0 : List Formula) : Option Int :=
 sR rec a0 0
def pH : Nat → (List Formula) → Option Int
 | 0 => fun _ => none
 | n + 1 => xw (pH n)
def sV  : List nE → Int → Option Int
 | [], b => some b
 | a :: d, b => ((pH lB ([a.kH])).bind fun g => ((wE a.na).bind fun h => (sV d (IntKind.i64.wrap (b + (IntKind.i64.wrap ((IntKind.i64.wrap ((IntKind.i64.wrap ((a.kC.kD.size : Int) + (a.kC.kJ.size : Int))) + (IntKind.i64.wrap (20 * g)))) + h)))))))
def sO (a0 : lI) : List ll → Int → Option Int
 | [], a => ((sV a0.lg a : Option Int).bind fun d => some d)
 | b :: g, a => ((((vj ([]) ([b.Signed])).bind fun j => some (j, ([b.kH]))) : Option (Int × (List Formula))).bind fun (k, h) => ((pH lB h).bind fun i => (sO a0 g (IntKind.i64.wrap (a + (IntKind.i64.wrap (k + (IntKind.i64.wrap (20 * i)))))))))
def wP (a0 : lI) : Option Int :=
 sO a0 a0.kO (a0.Name.size : Int)
def yS (a0 : mw) : Option Int :=
 ((((wP a0.kD).bind fun g => ((wP a0.Client).bind fun h => some ((IntKind.i64.wrap (g + h)), ([a0.Formula])))) : Option (Int × (List Formula))).bind fun (i, a) => ((pH lB a).bind fun b => ((vj a0.Keys ([])).bind fun d => some (IntKind.i64.wrap ((IntKind.i64.wrap (i + (IntKind.i64.wrap (20 * b)))) + d)))))
def ry (h : ByteArray) : List kZ → (List kC) → Option (List kC)
 | [], a => some a
 | g :: b, a => (if (mu g.lZ h) then ((nJ 32 a ([g.kC])).bind fun d => (ry h b d)) else (ry h b a))
def tR (a0 : List kZ) (a : ByteArray) : Option (List kC) :=
 ry a a0 ([])
def sT (rec : Formula → Option Int) : List Formula → Int → Option Int
 | [], a => some a
 | g :: d, a => ((rec g).bind fun b => (sT rec d (IntKind.i64.wrap (a + b))))
def xE (rec : Formula → Option Int) (a0 : Formula) : Option Int :=
 sT rec a0.Kids 1
def sk : Nat → Formula → Option Int
 | 0 => fun _ => none
 | n + 1 => xE (sk n)
def tH (rec : Formula → Option Int) : List Formula → Int → Option Int
 | [], a => some (IntKind.i64.wrap (a + 1))
 | g :: d, a => ((rec g).bind fun b => (tH rec d (if b > a then b else a)))
def yr (rec : Formula → Option Int) (a0 : Formula) : Option Int :=
 tH rec a0.Kids 0
def tu : Nat → Formula → Option Int
 | 0 => fun _ => none
 | n + 1 => yr (tu n)
def tP (rec : Formula → Option Bool) : List Formula → Option Bool
 | [] => some true
 | d :: a => ((rec d).bind fun b => (if (!b) then some false else (tP rec a)))
def yn (rec : Formula → Option Bool) (a0 : Formula) : Option Bool :=
 (if (a0.Op == 1) then ((tW a0.kC).bind fun n => (((if n then some ((a0.Kids.length : Int) == 0) else some false) : Option Bool).bind fun h => (((if h then some (a0.K == 0) else some false) : Option Bool).bind fun i => some i))) else (((if (decide (a0.Op < 1)) then some true else some (decide (a0.Op > 4))) : Option Bool).bind fun j => (((if j then some true else some (!(lu a0.kC (⟨zS, zS⟩ : kC)))) : Option Bool).bind fun k => (((if k then some true else some (decide ((a0.Kids.length : Int) > 8))) : Option Bool).bind fun l => (if l then some false else (((if (decide (a0.Op < 4)) then some (a0.K != 0) else some false) : Option Bool).bind fun m => (((if m then some true else (((if (a0.Op == 4) then (((if (decide ((a0.Kids.length : Int) < 1)) then some true else some (decide (a0.K < 0))) : Option Bool).bind fun d => (((if d then some true else some (decide (a0.K > (a0.Kids.length : Int)))) : Option Bool).bind fun g => some g)) else some false) : Option Bool).bind fun b => some b)) : Option Bool).bind fun a => (if a then some false else tP rec a0.Kids))))))))
def tG : Nat → Formula → Option Bool
 | 0 => fun _ => none
 | n + 1 => yn (tG n)
def rl (a0 : Formula) : Option Bool :=
 ((sk lB a0).bind fun h => (((if (decide (h ≤ 64)) then ((tu lB a0).bind fun b => some (decide (b ≤ 6))) else some false) : Option Bool).bind fun d => (((if d then ((tG lB a0).bind fun a => some a) else some false) : Option Bool).bind fun g => some g)))
def vZ (a0 : Formula) (a : Int) : Option Bool :=
 (((if (a0.Op == a) then some ((a0.Kids.length : Int) == 0) else some false) : Option Bool).bind fun x6 => some x6)
def ta (rec : Formula → Option ByteArray) : List Formula → ByteArray → Option ByteArray
 | [], a => some a
 | h :: g, a => ((rec h).bind fun b => ((xz a b).bind fun d => (ta rec g d)))
def xA (rec : Formula → Option ByteArray) (a0 : Formula) : Option ByteArray :=
 ((rG a0.Op).bind fun g => (if (a0.Op == 1) then ((tY a0.kC).bind fun k => ((xz g k).bind fun h => some h)) else (((if (a0.Op == 4) then ((rG a0.K).bind fun a => ((xz g a).bind fun b => some b)) else some g) : Option ByteArray).bind fun j => ((rG (a0.Kids.length : Int)).bind fun d => ((xz j d).bind fun i => ta rec a0.Kids i)))))
def qo : Nat → Formula → Option ByteArray
 | 0 => fun _ => none
 | n + 1 => xA (qo n)
def xf (a0 j : Formula) : Option Int :=
 ((((rl a0).bind fun h => (if h then ((qo lB a0).bind fun i => some i) else some zS)) : Option ByteArray).bind fun a => ((((rl j).bind fun d => (if d then ((qo lB j).bind fun g => some g) else some zS)) : Option ByteArray).bind fun b => (if (rj a b) then some (-1) else (if (!(rj a b || mu a b)) then some 1 else some 0))))
def tN (h : Formula) (rec : Formula → Formula → Option Bool) : List Formula → Nat → Option Bool
 | [], _ => some true
 | d :: a, i182 => ((mQ h.Kids (i182 : Int)).bind fun g => ((rec d g).bind fun b => (if (!b) then some false else (tN h rec a (i182 + 1)))))
def yo (rec : Formula → Formula → Option Bool) (a0 a : Formula) : Option Bool :=
 (((if (a0.Op != a.Op) then some true else some (a0.K != a.K)) : Option Bool).bind fun b => (((if b then some true else some (!(lu a0.kC a.kC))) : Option Bool).bind fun d => (((if d then some true else some ((a0.Kids.length : Int) != (a.Kids.length : Int))) : Option Bool).bind fun g => (if g then some false else tN a rec a0.Kids 0))))
def qj : Nat → Formula → Formula → Option Bool
 | 0 => fun _ _ => none
 | n + 1 => yo (qj n)
def qJ (b : List Formula) (d : Formula) : Nat → Int → Option Int
 | 0, _ => none
 | g + 1, a => (((if (decide (a > 0)) then ((mQ b (IntKind.i64.wrap (a - 1))).bind fun j => ((xf j d).bind fun h => some (decide (h > 0)))) else some false) : Option Bool).bind fun i => (if i then (qJ b d g (IntKind.i64.wrap (a - 1))) else some a))
def nK (p : Bool) : List Formula → (List Formula) → Option (List Formula)
 | [], a => some a
 | d :: g, a => ((qJ a d lB (a.length : Int) : Option Int).bind fun b => (((if p then some (decide (b > 0)) else some false) : Option Bool).bind fun l => (((if l then ((mQ a (IntKind.i64.wrap (b - 1))).bind fun n => ((qj lB n d).bind fun k => some k)) else some false) : Option Bool).bind fun m => (if m then (nK p g a) else ((rb (decide (0 ≤ b) && decide (b ≤ (a.length : Int)))).bind fun _ => ((nJ 72 ([]) (a.take (Int.toNat b))).bind fun h => ((nJ 72 h ([d])).bind fun i => ((rb (decide (0 ≤ b) && decide (b ≤ (a.length : Int)))).bind fun _ => ((nJ 72 i (a.drop (Int.toNat b))).bind fun j => (nK p g j))))))))))
def vN (a0 : List Formula) (a : Bool) : Option (List Formula) :=
 nK a a0 ([])
def qh (g : Int) (a0 : mA) : List Formula → Option ((Formula × mA) ⊕ Unit)
 | [] => some (Sum.inr ())
 | d :: a => ((vZ d (IntKind.i64.wrap (5 - g))).bind fun b => (if b then some (Sum.inl ((⟨(IntKind.i64.wrap (5 - g)), 0, (⟨zS, zS⟩ : kC), []⟩ : Formula), a0)) else (qh g a0 a)))
def oh (i : Int) (a0 : mA) : List Formula → (List Formula) → Option (Formula × mA)
 | [], a => ((qh i a0 a : Option ((Formula × mA) ⊕ Unit)).bind fun s => match s with | .inl l => some l | .inr _ => ((vN a true).bind fun b => (((if a0.Pv then some true else some (decide ((b.length : Int) > 64))) : Option Bool).bind fun h => (if ((b.length : Int) == 1) then ((mQ b 0).bind fun n => some (n, (⟨h⟩ : mA))) else some ((⟨i, 0, (⟨zS, zS⟩ : kC), b⟩ : Formula), (⟨h⟩ : mA))))))
 | d :: g, a => (if (d.Op == i) then ((nJ 72 a d.Kids).bind fun j => (oh i a0 g j)) else ((vZ d (IntKind.i64.wrap (5 - i))).bind fun m => (if m then some ((⟨(IntKind.i64.wrap (5 - i)), 0, (⟨zS, zS⟩ : kC), []⟩ : Formula), a0) else ((nJ 72 a ([d])).bind fun k => (oh i a0 g k)))))
def pZ (a0 : mA) (a : Int) (a2 : List Formula) : Option (Formula × mA) :=
 oh a a0 a2 ([])
def od  : List Formula → Int → (List Formula) → Option (Int × (List Formula))
 | [], b, a => some (b, a)
 | g :: d, b, a => ((vZ g 2).bind fun i => (if i then (od d (IntKind.i64.wrap (b - 1)) a) else ((vZ g 3).bind fun j => (if (!j) then ((nJ 72 a ([g])).bind fun h => (od d b h)) else (od d b a)))))
def oz (rec : mA → Formula → Option (Formula × mA)) (q : Formula) : List Formula → (List Formula) → mA → Option (Formula × mA)
 | [], g, a => (if (decide (q.Op < 4)) then ((pZ a q.Op g).bind fun i => some (i.1, i.2)) else ((od g q.K ([]) : Option (Int × (List Formula))).bind fun (d, b) => (if (decide (d ≤ 0)) then some ((⟨2, 0, (⟨zS, zS⟩ : kC), []⟩ : Formula), a) else (if (decide (d > (b.length : Int))) then some ((⟨3, 0, (⟨zS, zS⟩ : kC), []⟩ : Formula), a) else (if (d == (b.length : Int)) then ((pZ a 2 b).bind fun j => some (j.1, j.2)) else (if (d == 1) then ((pZ a 3 b).bind fun k => some (k.1, k.2)) else ((vN b false).bind fun n => some ((⟨4, d, (⟨zS, zS⟩ : kC), n⟩ : Formula), a))))))))
 | p :: l, g, a => ((rec a p).bind fun h => ((nJ 72 g ([h.1])).bind fun m => (oz rec q l m h.2)))
def tw (rec : mA → Formula → Option (Formula × mA)) (a0 : mA) (a : Formula) : Option (Formula × mA) :=
 (if (a.Op == 1) then some (a, a0) else oz rec a a.Kids ([]) a0)
def og : Nat → mA → Formula → Option (Formula × mA)
 | 0 => fun _ _ => none
 | n + 1 => tw (og n)
def zt (a0 : Formula) : Option (Formula × Int) :=
 ((rl a0).bind fun g => (if (!g) then some ((⟨0, 0, (⟨zS, zS⟩ : kC), []⟩ : Formula), 11) else ((og lB (⟨false⟩ : mA) a0).bind fun a => (((if a.2.Pv then some true else ((rl a.1).bind fun b => some (!b))) : Option Bool).bind fun d => (if d then some ((⟨0, 0, (⟨zS, zS⟩ : kC), []⟩ : Formula), 12) else some (a.1, 0))))))
def tT (n : kE) : List nE → Int → Int → Int → kC → (List Formula) → Option (Int × Int × Int × kC × (List Formula))
 | [], d, g, h, i, b => some (d, g, h, i, b)
 | k :: j, d, g, h, i, b => (((if (d == 0) then ((AE k.na n).bind fun l => some l) else some false) : Option Bool).bind fun m => (if m then ((zt (⟨2, 0, (⟨zS, zS⟩ : kC), [(⟨g, h, i, b⟩ : Formula), k.kH]⟩ : Formula)).bind fun a => (tT n j a.2 ((a.1).Op) ((a.1).K) ((a.1).kC) ((a.1).Kids))) else (tT n j d g h i b)))
def wN (l : kE) (a0 : lI) : List ll → Option (Formula × Int)
 | [] => some ((⟨0, 0, (⟨zS, zS⟩ : kC), []⟩ : Formula), 42)
 | b :: g => (if (!(nc b.Signed.kE l)) then (wN l a0 g) else ((zt b.kH).bind fun a => ((tT l a0.lg a.2 ((a.1).Op) ((a.1).K) ((a.1).kC) ((a.1).Kids) : Option (Int × Int × Int × kC × (List Formula))).bind fun (d, i, j, k, h) => (if (d != 0) then some ((⟨0, 0, (⟨zS, zS⟩ : kC), []⟩ : Formula), d) else some ((⟨i, j, k, h⟩ : Formula), 0)))))
def Bt (a0 : lI) (a : kE) : Option (Formula × Int) :=
 wN a a0 a0.kO
def xS (d : kC) : List kC → Option Bool
 | [] => some false
 | b :: a => (if (lu b d) then some true else (xS d a))
def Ax (a0 : List kC) (a : kC) : Option Bool :=
 xS a a0
def si (rec : Formula → (List kC) → Option Bool) (g : List kC) (a0 : Formula) : List Formula → Int → Option Bool
 | [], a => (if (a0.Op == 2) then some (a == (a0.Kids.length : Int)) else (if (a0.Op == 3) then some (decide (a > 0)) else some (decide (a ≥ a0.K))))
 | h :: b, a => ((rec h g).bind fun d => (if d then (si rec g a0 b (IntKind.i64.wrap (a + 1))) else (si rec g a0 b a)))
def yp (rec : Formula → (List kC) → Option Bool) (a0 : Formula) (a : List kC) : Option Bool :=
 (if (a0.Op == 1) then ((Ax a a0.kC).bind fun b => some b) else si rec a a0 a0.Kids 0)
def rS : Nat → Formula → (List kC) → Option Bool
 | 0 => fun _ _ => none
 | n + 1 => yp (rS n)
def se (a0 : lI) (h : List kC) : List ll → (List kE) → Option (List kE)
 | [], a => ((yG a).bind fun k => some k)
 | g :: b, a => ((Bt a0 g.Signed.kE).bind fun d => (((if (d.2 == 0) then ((rS lB d.1 h).bind fun j => some j) else some false) : Option Bool).bind fun l => (if l then ((nJ 136 a ([g.Signed.kE])).bind fun i => (se a0 h b i)) else (se a0 h b a))))
def xJ (a0 : lI) (b : List kE) (a2 : ByteArray) : Option (List kE) :=
 ((wj b).bind fun d => ((tR d a2).bind fun a => se a0 a a0.kO ([])))
def ua (a0 l : lI) : Nat → (List kE) → (List kE) → Int → Option ((List kE) × (List kE) × Int)
 | 0, _, _, _ => none
 | n296 + 1, a, b, h => ((xJ a0 b l.Name).bind fun d => ((xJ l a a0.Name).bind fun g => ((rW d a).bind fun i => (((if i then ((rW g b).bind fun j => some j) else some false) : Option Bool).bind fun k => (if k then some (a, b, h) else (ua a0 l n296 d g (IntKind.i64.wrap (h + 1))))))))
def Dz (a0 a : lI) : Option ((List kE) × (List kE) × Int) :=
 ua a0 a lB ([]) ([]) 0
def pC (a0 : kE) : Option ll :=
 ((Fg 1 0 8).bind fun a => some (⟨(⟨a0, a⟩ : Signed), (⟨2, 0, (⟨zS, zS⟩ : kC), []⟩ : Formula)⟩ : ll))
def A6 (a0 d : lI) : Option ((List kE) × (List (kC × (List (ByteArray × Bool)))) × (List kE) × (List (kC × (List kE))) × (List (ByteArray × (List kE))) × (List kZ) × Int × ByteArray) :=
 ((wS a0 d).bind fun b => ((xQ b.2.1).bind fun a => some (b.2.1, a.1, a.2.1, a.2.2.1, a.2.2.2.1, a.2.2.2.2.1, a.2.2.2.2.2, d.Name)))
def wu (a0 : kC) (h : List (kC × (List (ByteArray × Bool)))) (a : List kE) (g : List (kC × (List kE))) (b : List (ByteArray × (List kE))) (d : List kZ) (j : Int) (i : ByteArray) (k : List ll) (l : List nE) : Option Bool :=
 ((uL h a g b d j a0 i).bind fun m => some m)
def vx (a0 b : lI) (a2 : Formula) : Option Bool :=
 ((A6 a0 b).bind fun a => ((vV a2 (fun (x : kC) => wu x a.2.1 a.2.2.1 a.2.2.2.1 a.2.2.2.2.1 a.2.2.2.2.2.1 a.2.2.2.2.2.2.1 a.2.2.2.2.2.2.2 b.kO b.lg)).bind fun d => some d))
def qu (a0 : mw) : Option Bool :=
 ((vx a0.kD a0.Client a0.Formula).bind fun a => some a)
def pu (a0 : mw) (a : Int) : Option Nat :=
 (if (a == 0) then some 0 else some 3)
def pz (a0 : List ll) (a a2 : Int) : Option (List ll) :=
 ((rb (decide (0 ≤ a ∧ a ≤ a2 ∧ a2 ≤ (a0.length : Int) ∧ (a0.length : Int) ≤ (a0.length : Int)))).bind fun _ => (if (a == a2) then some a0 else ((rb (decide (0 ≤ a) && decide (a ≤ (a0.length : Int)))).bind fun _ => ((rb (decide (0 ≤ a2) && decide (a2 ≤ (a0.length : Int)))).bind fun _ => ((rb (decide ((Int.toNat a) ≤ (Int.toNat a2) ∧ (Int.toNat a2) ≤ a0.length))).bind fun b => ((rb (decide (0 ≤ ((a0.take (Int.toNat a) ++ a0.drop (Int.toNat a2)).length : Int) ∧ ((a0.take (Int.toNat a) ++ a0.drop (Int.toNat a2)).length : Int) ≤ (a0.length : Int) ∧ (a0.length : Int) = ((yt a0 (Int.toNat a) (Int.toNat a2)).length : Int) ∧ ((a0.take (Int.toNat a) ++ a0.drop (Int.toNat a2)).length : Int) = ((a0.take (Int.toNat a) ++ a0.drop (Int.toNat a2)).length : Int)))).bind fun _ => some ((ph (yt a0 (Int.toNat a) (Int.toNat a2)) (Int.toNat ((a0.take (Int.toNat a) ++ a0.drop (Int.toNat a2)).length : Int)) (⟨(⟨(⟨0, (⟨zS, zS⟩ : kC), zS, (⟨zS, zS⟩ : kC), (⟨zS, zS⟩ : kC), zS⟩ : kE), []⟩ : Signed), (⟨0, 0, (⟨zS, zS⟩ : kC), []⟩ : Formula)⟩ : ll)).take (a0.take (Int.toNat a) ++ a0.drop (Int.toNat a2)).length)))))))
def sd (a0 : mw) (d a2 : Int) : Option mw :=
 (((if (decide (d < 0)) then some true else some (decide (d > 1))) : Option Bool).bind fun j => (if j then some a0 else ((pu a0 d).bind fun g => (if (g == 0) then (((if (decide (a2 < 0)) then some true else some (decide (a2 ≥ (a0.kD.kO.length : Int)))) : Option Bool).bind fun k => (if k then some a0 else ((pK a0.kD.kO).bind fun h => ((pz h a2 (IntKind.i64.wrap (a2 + 1))).bind fun i => some (⟨(⟨a0.kD.Name, i, a0.kD.lg⟩ : lI), (⟨a0.Client.Name, a0.Client.kO, a0.Client.lg⟩ : lI), (⟨a0.Formula.Op, a0.Formula.K, a0.Formula.kC, a0.Formula.Kids⟩ : Formula), a0.nZ, a0.mh, a0.my, a0.nx, a0.mU, a0.Keys⟩ : mw))))) else (((if (decide (a2 < 0)) then some true else some (decide (a2 ≥ (a0.Client.kO.length : Int)))) : Option Bool).bind fun l => (if l then some a0 else ((pK a0.Client.kO).bind fun a => ((pz a a2 (IntKind.i64.wrap (a2 + 1))).bind fun b => some (⟨(⟨a0.kD.Name, a0.kD.kO, a0.kD.lg⟩ : lI), (⟨a0.Client.Name, b, a0.Client.lg⟩ : lI), (⟨a0.Formula.Op, a0.Formula.K, a0.Formula.kC, a0.Formula.Kids⟩ : Formula), a0.nZ, a0.mh, a0.my, a0.nx, a0.mU, a0.Keys⟩ : mw)))))))))
def qH (a0 : mw) (d : Int) : List ll → Nat → (List mN) → Option (List mN)
 | [], _, b => some b
 | k :: g, a, b => ((sd a0 d (a : Int)).bind fun i => ((qu i).bind fun j => (if (!j) then ((nJ 16 b ([(⟨d, (a : Int)⟩ : mN)])).bind fun h => (qH a0 d g (a + 1) h)) else (qH a0 d g (a + 1) b))))
def qD (a0 : mw) (d : Int) : List ll → Nat → (List mN) → Option (List mN)
 | [], _, b => some b
 | k :: g, a, b => ((sd a0 d (a : Int)).bind fun i => ((qu i).bind fun j => (if (!j) then ((nJ 16 b ([(⟨d, (a : Int)⟩ : mN)])).bind fun h => (qD a0 d g (a + 1) h)) else (qD a0 d g (a + 1) b))))
def pP (a0 : mw) : Nat → (List mN) → Int → Option (List mN)
 | 0, _, _ => none
 | d + 1, b, a => (if (decide (a < 2)) then ((pu a0 a).bind fun i => (if (i == 0) then ((qH a0 a a0.kD.kO 0 b : Option (List mN)).bind fun g => (pP a0 d g (IntKind.i64.wrap (a + 1)))) else ((qD a0 a a0.Client.kO 0 b : Option (List mN)).bind fun h => (pP a0 d h (IntKind.i64.wrap (a + 1)))))) else some b)
def vS (a0 : mw) : Option (List mN) :=
 ((qu a0).bind fun a => (if (!a) then some [] else pP a0 lB ([]) 0))
def qF  : Nat → Int → ByteArray → (List ll) → (List nE) → ByteArray → (List ll) → (List nE) → Int → Int → kC → (List Formula) → Int → mN → Int → Int → Int → (List Key) → Option (ByteArray × (List ll) × (List nE) × ByteArray × (List ll) × (List nE) × Int × Int × kC × (List Formula) × Int × mN × Int × Int × Int × (List Key))
 | 0, _, _, _, _, _, _, _, _, _, _, _, _, _, _, _, _, _ => none
 | E + 1, k, l, b, d, m, g, h, n, p, q, i, r, s, t, u, v, j => (if (decide (k ≥ 0)) then ((((sd (⟨(⟨l, b, d⟩ : lI), (⟨m, g, h⟩ : lI), (⟨n, p, q, i⟩ : Formula), r, s, t, u, v, j⟩ : mw) 0 k).bind fun a => ((qu a).bind fun F => (if F then some ((((a).kD).Name), (((a).kD).kO), (((a).kD).lg), (((a).Client).Name), (((a).Client).kO), (((a).Client).lg), (((a).Formula).Op), (((a).Formula).K), (((a).Formula).kC), (((a).Formula).Kids), ((a).nZ), ((a).mh), ((a).my), ((a).nx), ((a).mU), ((a).Keys)) else some (l, b, d, m, g, h, n, p, q, i, r, s, t, u, v, j)))) : Option (ByteArray × (List ll) × (List nE) × ByteArray × (List ll) × (List nE) × Int × Int × kC × (List Formula) × Int × mN × Int × Int × Int × (List Key))).bind fun (G, w, x, I, y, z, J, L, M, A, O, P, Q, R, T, D) => (qF E (IntKind.i64.wrap (k - 1)) G w x I y z J L M A O P Q R T D)) else some (l, b, d, m, g, h, n, p, q, i, r, s, t, u, v, j))
def qz  : Nat → Int → ByteArray → (List ll) → (List nE) → ByteArray → (List ll) → (List nE) → Int → Int → kC → (List Formula) → Int → mN → Int → Int → Int → (List Key) → Option (mw × Bool)
 | 0, _, _, _, _, _, _, _, _, _, _, _, _, _, _, _, _, _ => none
 | M + 1, v, k, b, d, l, g, h, m, n, p, i, q, r, s, t, u, j => (if (decide (v ≥ 0)) then ((((sd (⟨(⟨k, b, d⟩ : lI), (⟨l, g, h⟩ : lI), (⟨m, n, p, i⟩ : Formula), q, r, s, t, u, j⟩ : mw) 1 v).bind fun a => ((qu a).bind fun O => (if O then some ((((a).kD).Name), (((a).kD).kO), (((a).kD).lg), (((a).Client).Name), (((a).Client).kO), (((a).Client).lg), (((a).Formula).Op), (((a).Formula).K), (((a).Formula).kC), (((a).Formula).Kids), ((a).nZ), ((a).mh), ((a).my), ((a).nx), ((a).mU), ((a).Keys)) else some (k, b, d, l, g, h, m, n, p, i, q, r, s, t, u, j)))) : Option (ByteArray × (List ll) × (List nE) × ByteArray × (List ll) × (List nE) × Int × Int × kC × (List Formula) × Int × mN × Int × Int × Int × (List Key))).bind fun (P, w, x, Q, y, z, R, T, U, A, W, Y, Z, a1, a6, D) => (qz M (IntKind.i64.wrap (v - 1)) P w x Q y z R T U A W Y Z a1 a6 D)) else ((pu (⟨(⟨k, b, d⟩ : lI), (⟨l, g, h⟩ : lI), (⟨m, n, p, i⟩ : Formula), q, r, s, t, u, j⟩ : mw) 0).bind fun aj => ((qF lB (IntKind.i64.wrap ((b.length : Int) - 1)) k b d l g h m n p i q r s t u j : Option (ByteArray × (List ll) × (List nE) × ByteArray × (List ll) × (List nE) × Int × Int × kC × (List Formula) × Int × mN × Int × Int × Int × (List Key))).bind fun (a7, E, F, a8, G, I, aa, ab, ad, J, ae, af, ag, ah, ai, L) => some ((⟨(⟨a7, E, F⟩ : lI), (⟨a8, G, I⟩ : lI), (⟨aa, ab, ad, J⟩ : Formula), ae, af, ag, ah, ai, L⟩ : mw), true))))
def uE (a0 : mw) : Option (mw × Bool) :=
 ((qu a0).bind fun a => (if (!a) then some (a0, false) else ((pu a0 1).bind fun b => qz lB (IntKind.i64.wrap ((a0.Client.kO.length : Int) - 1)) a0.kD.Name a0.kD.kO a0.kD.lg a0.Client.Name a0.Client.kO a0.Client.lg a0.Formula.Op a0.Formula.K a0.Formula.kC a0.Formula.Kids a0.nZ a0.mh a0.my a0.nx a0.mU a0.Keys)))
def tX (a0 : mw) : Option Int :=
 ((wS a0.kD a0.Client).bind fun a => some (IntKind.i64.wrap ((a.1.length : Int) + (a.2.1.length : Int))))
def wK  : Option Bool :=
 ((((pC (⟨1, (⟨(⟨#[120]⟩ : ByteArray), (⟨#[121]⟩ : ByteArray)⟩ : kC), (⟨#[99, 108, 105]⟩ : ByteArray), (⟨zS, zS⟩ : kC), (⟨zS, zS⟩ : kC), zS⟩ : kE)).bind fun z => ((pC (⟨1, (⟨(⟨(⟨#[120]⟩ : ByteArray), (⟨#[121]⟩ : ByteArray)⟩ : kC).kD, (⟨#[122]⟩ : ByteArray)⟩ : kC), (⟨#[99, 108, 105]⟩ : ByteArray), (⟨zS, zS⟩ : kC), (⟨zS, zS⟩ : kC), zS⟩ : kE)).bind fun A => some ((⟨#[111, 119, 110]⟩ : ByteArray), ([]), ([]), (⟨#[99, 108, 105]⟩ : ByteArray), ([z, A]), ([]), 1, 0, (⟨(⟨#[120]⟩ : ByteArray), (⟨#[121]⟩ : ByteArray)⟩ : kC), ([]), 0, (⟨0, 0⟩ : mN), 0, 0, 0, ([]), zS, ([]), ([]), zS, ([]), ([]), 0, 0, (⟨zS, zS⟩ : kC), ([]), 0, (⟨0, 0⟩ : mN), 0, 0, 0, ([])))) : Option (ByteArray × (List ll) × (List nE) × ByteArray × (List ll) × (List nE) × Int × Int × kC × (List Formula) × Int × mN × Int × Int × Int × (List Key) × ByteArray × (List ll) × (List nE) × ByteArray × (List ll) × (List nE) × Int × Int × kC × (List Formula) × Int × mN × Int × Int × Int × (List Key))).bind fun (k, a, b, l, d, g, m, n, p, h, q, r, s, t, u, i, Y, P, Q, Z, R, T, a1, a6, a7, U, a8, aa, ab, ad, ae, W) => ((vS (⟨(⟨k, a, b⟩ : lI), (⟨l, d, g⟩ : lI), (⟨m, n, p, h⟩ : Formula), q, r, s, t, u, i⟩ : mw)).bind fun v => ((uE (⟨(⟨k, a, b⟩ : lI), (⟨l, d, g⟩ : lI), (⟨m, n, p, h⟩ : Formula), q, r, s, t, u, i⟩ : mw)).bind fun j => (((if ((v.length : Int) == 1) then ((mQ v 0).bind fun O => some (zw O (⟨1, 0⟩ : mN))) else some false) : Option Bool).bind fun D => (((if D then some j.2 else some false) : Option Bool).bind fun E => (((if E then some (((((j.1).Client).kO).length : Int) == 1) else some false) : Option Bool).bind fun F => (((if F then ((mQ (((j.1).Client).kO) 0).bind fun M => some (nc M.Signed.kE (⟨1, (⟨(⟨#[120]⟩ : ByteArray), (⟨#[121]⟩ : ByteArray)⟩ : kC), (⟨#[99, 108, 105]⟩ : ByteArray), (⟨zS, zS⟩ : kC), (⟨zS, zS⟩ : kC), zS⟩ : kE))) else some false) : Option Bool).bind fun G => (((if G then ((tX (⟨(⟨k, a, b⟩ : lI), (⟨l, d, g⟩ : lI), (⟨m, n, p, h⟩ : Formula), q, r, s, t, u, i⟩ : mw)).bind fun y => some (y == 2)) else some false) : Option Bool).bind fun I => (((if I then ((tX j.1).bind fun x => some (x == 1)) else some false) : Option Bool).bind fun J => (((if J then ((sd (⟨(⟨k, a, b⟩ : lI), (⟨l, d, g⟩ : lI), (⟨m, n, p, h⟩ : Formula), q, r, s, t, u, i⟩ : mw) 1 0).bind fun w => some (((((w).Client).kO).length : Int) == 1)) else some false) : Option Bool).bind fun L => some L))))))))))
def Ba (a0 g : lI) : Option (List kC) :=
 ((Dz a0 g).bind fun a => ((wj a.2.1).bind fun b => ((tR b g.Name).bind fun d => some d)))
def xX (a0 h : lI) (a2 : Formula) : Option Bool :=
 ((rl a2).bind fun g => (((if g then ((Ba a0 h).bind fun a => ((rS lB a2 a).bind fun b => some b)) else some false) : Option Bool).bind fun d => some d))
def uA (a0 : mw) : Option Bool :=
 ((xX a0.kD a0.Client a0.Formula).bind fun a => some a)
def sU (g : Int) : List ll → Nat → (List ll) → Option (List ll)
 | [], _, a => some a
 | h :: b, i93, a => (if ((i93 : Int) != g) then ((nJ 232 a ([h])).bind fun d => (sU g b (i93 + 1) d)) else (sU g b (i93 + 1) a))
def yE (a0 : List ll) (a : Int) : Option (List ll) :=
 sU a a0 0 ([])
def uS (a0 : mw) (h a2 : Int) : Option mw :=
 (((if (h == 0) then ((yE a0.kD.kO a2).bind fun a => some a) else some a0.kD.kO) : Option (List ll)).bind fun b => (((if (h == 1) then ((yE a0.Client.kO a2).bind fun g => some g) else some a0.Client.kO) : Option (List ll)).bind fun d => some (⟨(⟨a0.kD.Name, b, a0.kD.lg⟩ : lI), (⟨a0.Client.Name, d, a0.Client.lg⟩ : lI), a0.Formula, a0.nZ, a0.mh, a0.my, a0.nx, a0.mU, a0.Keys⟩ : mw)))
def zQ (a0 a : ll) : Option Bool :=
 (((if (nc a0.Signed.kE a.Signed.kE) then some (mu (CB a0.Signed.Tag) (CB a.Signed.Tag)) else some false) : Option Bool).bind fun d => (((if d then ((qj lB a0.kH a.kH).bind fun b => some b) else some false) : Option Bool).bind fun g => some g))
def tQ (l : lI) : List nE → Nat → Option (Bool ⊕ Unit)
 | [], _ => some (Sum.inr ())
 | b :: k, d => ((mQ l.lg (d : Int)).bind fun a => (((if (!(lu b.kC a.kC)) then some true else ((qj lB b.kH a.kH).bind fun h => some (!h))) : Option Bool).bind fun i => (((if i then some true else ((rW b.na a.na).bind fun g => some (!g))) : Option Bool).bind fun j => (if j then some (Sum.inl false) else (tQ l k (d + 1))))))
def tI (i a0 : lI) : List ll → Nat → Option Bool
 | [], _ => ((tQ i a0.lg 0 : Option (Bool ⊕ Unit)).bind fun s => match s with | .inl a => some a | .inr _ => some true)
 | g :: b, i215 => ((mQ i.kO (i215 : Int)).bind fun h => ((zQ g h).bind fun d => (if (!d) then some false else (tI i a0 b (i215 + 1)))))
def xu (a0 a : lI) : Option Bool :=
 (((if (!(mu a0.Name a.Name)) then some true else some ((a0.kO.length : Int) != (a.kO.length : Int))) : Option Bool).bind fun b => (((if b then some true else some ((a0.lg.length : Int) != (a.lg.length : Int))) : Option Bool).bind fun d => (if d then some false else tI a a0 a0.kO 0)))
def xK (a0 g : mw) : Option Bool :=
 ((xu a0.kD g.kD).bind fun a => (((if a then ((xu a0.Client g.Client).bind fun b => some b) else some false) : Option Bool).bind fun d => some d))
def qy  : Nat → Int → ByteArray → (List ll) → (List nE) → ByteArray → (List ll) → (List nE) → Int → Int → kC → (List Formula) → Int → mN → Int → Int → Int → (List Key) → Option (ByteArray × (List ll) × (List nE) × ByteArray × (List ll) × (List nE) × Int × Int × kC × (List Formula) × Int × mN × Int × Int × Int × (List Key))
 | 0, _, _, _, _, _, _, _, _, _, _, _, _, _, _, _, _, _ => none
 | E + 1, k, l, b, d, m, g, h, n, p, q, i, r, s, t, u, v, j => (if (decide (k ≥ 0)) then ((((uS (⟨(⟨l, b, d⟩ : lI), (⟨m, g, h⟩ : lI), (⟨n, p, q, i⟩ : Formula), r, s, t, u, v, j⟩ : mw) 0 k).bind fun F => ((uA F).bind fun G => (if G then ((uS (⟨(⟨l, b, d⟩ : lI), (⟨m, g, h⟩ : lI), (⟨n, p, q, i⟩ : Formula), r, s, t, u, v, j⟩ : mw) 0 k).bind fun a => some ((((a).kD).Name), (((a).kD).kO), (((a).kD).lg), (((a).Client).Name), (((a).Client).kO), (((a).Client).lg), (((a).Formula).Op), (((a).Formula).K), (((a).Formula).kC), (((a).Formula).Kids), ((a).nZ), ((a).mh), ((a).my), ((a).nx), ((a).mU), ((a).Keys))) else some (l, b, d, m, g, h, n, p, q, i, r, s, t, u, v, j)))) : Option (ByteArray × (List ll) × (List nE) × ByteArray × (List ll) × (List nE) × Int × Int × kC × (List Formula) × Int × mN × Int × Int × Int × (List Key))).bind fun (I, w, x, J, y, z, L, M, O, A, P, Q, R, T, U, D) => (qy E (IntKind.i64.wrap (k - 1)) I w x J y z L M O A P Q R T U D)) else some (l, b, d, m, g, h, n, p, q, i, r, s, t, u, v, j))
def qE  : Nat → Int → ByteArray → (List ll) → (List nE) → ByteArray → (List ll) → (List nE) → Int → Int → kC → (List Formula) → Int → mN → Int → Int → Int → (List Key) → Option mw
 | 0, _, _, _, _, _, _, _, _, _, _, _, _, _, _, _, _, _ => none
 | aj + 1, k, l, b, d, m, g, h, n, p, q, i, r, s, t, u, v, j => (if (decide (k ≥ 0)) then ((((uS (⟨(⟨l, b, d⟩ : lI), (⟨m, g, h⟩ : lI), (⟨n, p, q, i⟩ : Formula), r, s, t, u, v, j⟩ : mw) 1 k).bind fun M => ((uA M).bind fun O => (if O then ((uS (⟨(⟨l, b, d⟩ : lI), (⟨m, g, h⟩ : lI), (⟨n, p, q, i⟩ : Formula), r, s, t, u, v, j⟩ : mw) 1 k).bind fun a => some ((((a).kD).Name), (((a).kD).kO), (((a).kD).lg), (((a).Client).Name), (((a).Client).kO), (((a).Client).lg), (((a).Formula).Op), (((a).Formula).K), (((a).Formula).kC), (((a).Formula).Kids), ((a).nZ), ((a).mh), ((a).my), ((a).nx), ((a).mU), ((a).Keys))) else some (l, b, d, m, g, h, n, p, q, i, r, s, t, u, v, j)))) : Option (ByteArray × (List ll) × (List nE) × ByteArray × (List ll) × (List nE) × Int × Int × kC × (List Formula) × Int × mN × Int × Int × Int × (List Key))).bind fun (P, w, x, Q, y, z, R, T, U, A, W, Y, Z, a1, a6, D) => (qE aj (IntKind.i64.wrap (k - 1)) P w x Q y z R T U A W Y Z a1 a6 D)) else ((qy lB (IntKind.i64.wrap ((b.length : Int) - 1)) l b d m g h n p q i r s t u v j : Option (ByteArray × (List ll) × (List nE) × ByteArray × (List ll) × (List nE) × Int × Int × kC × (List Formula) × Int × mN × Int × Int × Int × (List Key))).bind fun (a7, E, F, a8, G, I, aa, ab, ad, J, ae, af, ag, ah, ai, L) => some (⟨(⟨a7, E, F⟩ : lI), (⟨a8, G, I⟩ : lI), (⟨aa, ab, ad, J⟩ : Formula), ae, af, ag, ah, ai, L⟩ : mw)))
def yc (a0 : mw) : Option mw :=
 qE lB (IntKind.i64.wrap ((a0.Client.kO.length : Int) - 1)) a0.kD.Name a0.kD.kO a0.kD.lg a0.Client.Name a0.Client.kO a0.Client.lg a0.Formula.Op a0.Formula.K a0.Formula.kC a0.Formula.Kids a0.nZ a0.mh a0.my a0.nx a0.mU a0.Keys
def uo (a0 : mw) : Option Bool :=
 (wK.bind fun h => (if (!h) then some false else ((yS a0).bind fun i => (if (decide (i > 4000)) then some true else ((uE a0).bind fun a => ((uA a0).bind fun j => (if (!j) then (((if (!a.2) then ((xK a.1 a0).bind fun k => some k) else some false) : Option Bool).bind fun l => some l) else (((if a.2 then ((yc a0).bind fun b => ((xK a.1 b).bind fun d => some d)) else some false) : Option Bool).bind fun g => some g))))))))
end
end Go.Proofs.YtklbhegeiijbjaaGreat
