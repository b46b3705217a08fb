/- a part of a proof of LeastNeeds -/
import Derived.Test.YtklbhegeiijbjaaGreatRtUm
import Derived.Laws.IdiomStrings
import Derived.Laws.MakeOwn
import Derived.Shelf.SlSortCmp.NoneTotal
import Derived.Shelf.SortM.Plain
import Derived.Shelf.SortM.SortNone
import Derived.Shelf.SlIter.Sorted
import Derived.Shelf.SlIter.Nil
import Derived.Test.YtklbhegeiijbjaaGreatProg
import Derived.KernelRfl
set_option linter.all false
namespace Go.Proofs.YtklbhegeiijbjaaGreat
open Go.RowKit
section
variable {P : Program} {E : Nat → Value} {W : World} {d : Option Nat} {ty : TypeId} {pos : String} {af : Array Edge} {g : Option (Nat × Bool)}
 {dd : Bool} {F : Nat → Prop} {w : World} {μ : lQ} {L : List (Nat × Obj)}
def Fl {α : Type} (a : Nat) (z : α) (n : Int) : Option (List α) := if 0 ≤ n ∧ (a : Int) * n ≤ 140737488355328 ∧ n ≤ (maxLen : Int) then some (List.replicate n.toNat z) else none
theorem Iv {α : Type} {enc : α → List Value} {k : Nat} (hk : ∀ x, (enc x).length = k) (a : 0 < k) (z : α) (n : Nat) : (madeCells (enc z).toArray (n * k)).toList = ((List.replicate n z).map enc).flatten := by
 apply List.ext_getElem
 ·rw [pL hk, dJ, size_madeCells]; simp
 ·intro i h1 h
  rw [dJ, size_madeCells] at h1
  have j : i / k < n := by rw [js a]; exact h1
  have d : i % k < (enc z).length := by rw [hk]; exact Nat.mod_lt _ a
  have b := xN hk (List.replicate n z) (i / k) z (by rw [List.getElem?_replicate, aX j]) (i % k) _ (dB d)
  rw [show i / k * k + i % k = i by rw [Nat.mul_comm]; exact Nat.div_add_mod i k] at b
  rw [dB h] at b
  have g := jB b
  rw [g]
  simp only [madeCells, Array.getElem_toList, Array.getElem_map, Array.getElem_range, dV, hk]
  rw [getElem!_pos _ _ (by simpa using d)]
  simp
theorem La {K : Value → World → Prop} {α : Type} {e t : TypeId} {enc : α → List Value} {k a : Nat} {b : Value} {n : Int} {l : IntKind} {z : α} {r : List α} {x y : Operand} {i : TypeInfo} (m : ST dd F w W μ L) (hk : ∀ x, (enc x).length = k) (s : 0 < k) (O : P.underlying t = some (.slice e)) (J : P.info? e = some i) (T : i.zero = some b) (u : i.size = k) (q : i.bytes = a) (I : b.cells = (enc z).toArray) (Q : kV E x = .int l n) (R : kV E y = .int l n) (j : Fl a z n = some r) (h : ∀ W' v R', ST dd F w W' μ (R' ++ L) → lA e enc k v r R' → K v W') : ov P E ⟨d, .makeSlice t x y, ty, pos, af, g⟩ W K := by
 unfold Fl at j
 split at j
 case isFalse => cases j
 rename_i p
 cases j
 obtain ⟨A, h1, D⟩ := p
 subst u; subst q
 have G : n.toNat ≤ maxLen := by omega
 have M := run_make (P := P) W t e i b O J T l l n n A (Int.le_refl _) (by omega) (by simp only [maxLen] at D; omega)
 refine .inl ⟨.slice (some ⟨W.heap.size, 0, none⟩) n.toNat n.toNat, W.alloc (.cells (madeCells b.cells (n.toNat * i.size)) e), ?_, h _ _ [(W.heap.size, .cells (madeCells b.cells (n.toNat * i.size)) e)] (m.alloc _) ?_⟩
 ·show (do pure (.value (← Instr.makeSlice t (kV E x) (kV E y))) : Sem Next).run P W = _
  rw [Q, R]
  simp only [cK, M, bQ, dH]
 ·exact lA.lit (by rw [List.length_replicate]) G (by rw [I]; exact Iv hk s z _) (by rw [size_madeCells])
end
theorem sL.Bv {κ γ : Type} {kenc : κ → Value} {Q : Value → γ → List (Nat × Obj) → Prop} {μ : lQ} {v : Value} {l : List (κ × γ)} (h : sL kenc Q μ v l) : v.oneCell' = true := by
 obtain ⟨a, R, h, _⟩ := h
 obtain ⟨m, rfl⟩ := h.form
 rfl
theorem xt.Bv {κ β : Type} {kenc : κ → Value} {vf : β → Value} {μ : lQ} {v : Value} {l : List (κ × β)} (h : xt kenc vf μ v l) : v.oneCell' = true := by
 obtain ⟨m, rfl⟩ := h.form
 rfl
end Go.Proofs.YtklbhegeiijbjaaGreat
namespace Go.Proofs.YtklbhegeiijbjaaGreat
open Go.RowKit
section
variable {dd : Bool}
def Ch {α : Type} (R : rA α) : lQ → List Value → α → Prop := fun μ vs x => ∃ ys, vs = [.agg ys.toArray] ∧ R μ ys x
def wD {α β : Type} (R : rA α) (S : rA β) : lQ → List Value → α × β → Prop := fun μ vs x => ∃ ys zs, vs = [.agg ys.toArray, .agg zs.toArray] ∧ R μ ys x.1 ∧ S μ zs x.2
theorem Ch.mk {α : Type} {R : rA α} {k : Nat} {μ μ' : lQ} {ys : List Value} {x : α} (a : Deep R k) (h : R μ ys x) (b : lu μ μ') : Ch R μ' [.agg ys.toArray] x := ⟨ys, rfl, a.mono _ _ _ _ b h⟩
theorem wD.mk {α β : Type} {R : rA α} {S : rA β} {k m : Nat} {μ μ' : lQ} {ys zs : List Value} {x : α} {y : β} (d : Deep R k) (g : Deep S m) (h : R μ ys x) (b : S μ zs y) (a : lu μ μ') : wD R S μ' [.agg ys.toArray, .agg zs.toArray] (x, y) :=
 ⟨ys, zs, rfl, d.mono _ _ _ _ a h, g.mono _ _ _ _ a b⟩
def yD {α β : Type} (P : Program) (fv : Value) (μ : lQ) (a : lQ → List Value → α → Prop) (b : β → Value) (pm : α → Option β) : Prop :=
 ∃ f first caps, fv = .func (.func f) first caps ∧ (∀ args w, (callFunc f args).run P w = .ok (.enter f args) w) ∧ ∀ W x vs r, lu μ (hp W) → a (hp W) vs x → pm x = some r → lE false P f (first.toList ++ (vs ++ caps.toList)) W (b r)
theorem yD.form {α β : Type} {P : Program} {fv : Value} {μ : lQ} {d : lQ → List Value → α → Prop} {g : β → Value} {pm : α → Option β} (h : yD P fv μ d g pm) : ∃ f a b, fv = .func f a b := let ⟨f, a, b, h, _⟩ := h; ⟨_, a, b, h⟩
end
section
variable {P : Program} {W : World} {E : Nat → Value} {d : Option Nat} {ty : TypeId} {pos : String} {af : Array Edge} {g : Option (Nat × Bool)} {F : Nat → Prop} {w : World} {μ μ0 : lQ} {L : List (Nat × Obj)}
theorem yD.mono {α β : Type} {fv : Value} {a : lQ → List Value → α → Prop} {b : β → Value} {pm : α → Option β} (h : yD P fv μ a b pm) (i : lu μ μ0) : yD P fv μ0 a b pm := by
 obtain ⟨f, first, caps, h1, d, g⟩ := h
 exact ⟨f, first, caps, h1, d, fun W x vs r h => g W x vs r (i.trans h)⟩
theorem zL {α β : Type} {K : Value → World → Prop} {fv : Value} {j : lQ → List Value → α → Prop} {k : β → Value} {pm : α → Option β} {b : Operand} {ax : Array Operand} {ats : Array TypeId} (x : α) {vs : List Value} {r : β} (a : ST false F w W μ L) (s : yD P fv μ0 j k pm) (u : lu μ0 μ) (q : j (hp W) vs x) (t : kV E b = fv) (ha : ax.map (kV E) ++ (#[] : Array Value) = vs.toArray) (hm : pm x = some r) (h : ∀ W', ST false F w W' μ L → K (k r) W') : ov P E ⟨d, .call ⟨.value b, ax, ats⟩, ty, pos, af, g⟩ W K := by
 obtain ⟨f, first, caps, rfl, l, m⟩ := s
 have i : ax.map (kV E) = vs.toArray := by simpa using ha
 refine .inr (.inr ⟨f, (first.toList ++ (vs ++ caps.toList)).toArray, ?_, dZ (m W x vs r (u.trans a.kM) q hm) (fun _ _ ⟨n, p⟩ => ⟨_, n, h _ (a.Jy p)⟩)⟩)
 show (do let d ← resolve (kV E) ⟨.value b, ax, ats⟩ ty; invoke d.target d.args : Sem Next).run P W = _
 simp only [resolve, t, Deferred.ofValue, cK, dH, bQ, invoke, i, l]
 congr 2
 simp
end
section
variable {dd : Bool}
variable {β : Type} {Rl : rA β} {k : Nat} {μ : lQ} {v : Value} {l : List β} {e : TypeId} {B : List (Nat × Obj)}
variable {F : Nat → Prop} {w W : World} {L : List (Nat × Obj)}
variable {P : Program} {E : Nat → Value} {d : Option Nat} {ty : TypeId} {pos : String} {af : Array Edge} {g : Option (Nat × Bool)}
theorem J1 {α : Type} {enc : α → List Value} (hk : ∀ x, (enc x).length = k) (d : 0 < k) (g : ∀ x y, enc x = enc y → x = y) : ∀ {l m : List α}, (l.map enc).flatten = (m.map enc).flatten → l = m
 | [], [], _ => rfl
 | [], b :: m, h => by
  have := bL List.length h
  simp only [gI, dL, bV, bP, bR, aF, hk] at this
  omega
 | a :: l, [], h => by
  have := bL List.length h
  simp only [gI, dL, bV, bP, bR, aF, hk] at this
  omega
 | a :: l, b :: m, h => by
  simp only [bP, bR] at h
  obtain ⟨h1, i⟩ := List.append_inj h (by rw [hk, hk])
  rw [g _ _ h1, J1 hk d g i]
theorem Uf (x y : ya k) (h : wv x = wv y) : x = y := Subtype.ext h
theorem lA.pre {v1 : Value} {cl a : List (ya k)} (g : 0 < k) (h : lA e wv k v cl B) (h1 : lA e wv k v1 a B) (d : a.length ≤ cl.length) : a = cl.take a.length := by
 rcases h with ⟨rfl, rfl, rfl⟩ | ⟨r, cap, b, rfl, rfl, s, t, u, p⟩
 ·simp at d; simp [d]
 ·rcases h1 with ⟨_, _, h⟩ | ⟨g1, i, j, rfl, l, q, a2, a3, a4⟩
  ·cases h
  ·cases l
   refine J1 zb g Uf ?_
   rw [← a4]
   have hle : a.length * k ≤ cl.length * k := cI _ d
   have : b.toList.take (a.length * k) = (b.toList.take (cl.length * k)).take (a.length * k) := by rw [iG, dE hle]
   rw [this, p]
   have m : (cl.map wv).flatten = ((cl.take a.length).map wv).flatten ++ ((cl.drop a.length).map wv).flatten := by rw [← cT, ← cL, gC]
   have n : ((cl.take a.length).map wv).flatten.length = a.length * k := by rw [pL zb, cQ, dE d]
   rw [m, ← n, jj]
theorem pT.replicate {α β : Type} {Q : α → β → Prop} {a : α} {b : β} (h : Q a b) : ∀ n, pT Q (List.replicate n a) (List.replicate n b)
 | 0 => .nil
 | n + 1 => .cons h (pT.replicate h n)
theorem pT.Ue {α β : Type} {Q : α → β → Prop} {l : List α} {m : List β} (h : pT Q l m) {a : α} {b : β} (d : Q a b) (i : Nat) : pT Q (pk l i a) (pk m i b) := by
 unfold pk
 rw [h.length]
 exact (h.take i).append (pT.replicate d _)
theorem Bu {t e' : TypeId} {x ih : Operand} {u : IntKind} {i : Int} (r : P.underlying t = some (.slice e')) (he : ∀ w, (sizeOf e').run P w = .ok k w) (s : kV E x = v) (p : kV E ih = .int u i) (h : lY e Rl k μ v l B) (j : 0 ≤ i) (q : i ≤ l.length) :
  ∃ a, lY e Rl k μ a (l.take i.toNat) B ∧ ∀ W, nc P E ⟨d, .slice t x none (some ih) none, ty, pos, af, g⟩ W a W := by
 obtain ⟨cl, h1, b⟩ := h
 obtain ⟨a, m, n⟩ := EQ (d := d) (ty := ty) (pos := pos) (af := af) (g := g) r he s p h1 zb j (by rw [b.length]; exact q)
 exact ⟨a, ⟨_, m, b.take _⟩, n⟩
theorem zK {t e' : TypeId} {x a : Operand} {r : IntKind} {i : Int} (p : P.underlying t = some (.slice e')) (he : ∀ w, (sizeOf e').run P w = .ok k w) (q : kV E x = v) (m : kV E a = .int r i) (h : lY e Rl k μ v l B) (b : 0 ≤ i) (n : i ≤ l.length) :
  ∃ u, xv k v i.toNat u ∧ ∀ W, nc P E ⟨d, .slice t x (some a) none none, ty, pos, af, g⟩ W u W := by
 obtain ⟨cl, h1, j⟩ := h
 exact AG p he q m h1 b (by rw [j.length]; exact n)
theorem MI {t e' : TypeId} {x : Operand} {u : Value} {i : Nat} (b : P.underlying t = some (.slice e')) (j : kV E x = u) (hu : xv k v i u) (h : lY e Rl k μ v l B) : nc P E ⟨d, .call ⟨.builtin .len, #[x], #[t]⟩, ty, pos, af, g⟩ W (.int .i64 ((l.length - i : Nat) : Int)) W := by
 obtain ⟨cl, h1, a⟩ := h
 rw [← a.length]
 exact IL b j hu h1
theorem B4 {t e' : TypeId} {x j : Operand} {G : IntKind} {i : Int} {x0 : β} {u : Value} {o : Nat} {A : List Value → Prop} (y : ∀ {ys}, Rl μ ys x0 → A ys) (D : P.underlying t = some (.slice e')) (he : ∀ w, (sizeOf e').run P w = .ok k w) (F : kV E x = u) (r : kV E j = .int G i) (h : lY e Rl k μ v l B) (hu : xv k v o u) (m : 0 ≤ i) (s : (l.drop o)[i.toNat]? = some x0) :
  ∃ p, (∃ ys, A ys ∧ At (Df B) p ys ∧ BL B k p (o + i.toNat)) ∧ ∀ W, nc P E ⟨d, .indexAddr t x j, ty, pos, af, g⟩ W p W := by
 obtain ⟨cl, h1, n⟩ := h
 obtain ⟨c, b, z⟩ := (n.drop o).get s
 obtain ⟨p, a, q⟩ := AP (d := d) (ty := ty) (pos := pos) (af := af) (g := g) D he F r h1 hu m b
 exact ⟨p, ⟨c.1, y z, a.at h1 zb (Cc b), a⟩, q⟩
theorem BO {K : Value → World → Prop} {z : β} {zs : List Value} {Y : List (Nat × Obj)} {t e' : TypeId} {x : Operand} {u j : Value} {i : Nat} (p : Deep Rl k) (b : ST dd F w W μ (B ++ Y)) (h : lY e Rl k μ v l B) (a : Rl μ zs z) (s : P.underlying t = some (.slice e')) (A : ∀ w, (zeroValue e').run P w = .ok j w) (hu : xv k v i u) (r : j.cells = zs.toArray) (y : kV E x = u) (q : ∀ W' R', ST dd F w W' μ (R' ++ Y) → lY e Rl k μ v (pk l i z) R' → K (.tuple #[]) W') : ov P E ⟨d, .call ⟨.builtin .clear, #[x], #[t]⟩, ty, pos, af, g⟩ W K := by
 obtain ⟨cl, h1, n⟩ := h
 exact Di (p.cell a) b h1 zb MR s A hu r y (fun W' R' m a2 => q W' R' m ⟨_, a2, n.Ue a i⟩)
theorem pT.Uj {α β : Type} {Q : α → β → Prop} {l : List α} {m : List β} (h : pT Q l m) (i j : Nat) : pT Q (yy l i j) (yy m i j) := by
 unfold yy
 rw [h.length]
 exact ((h.take i).append (h.drop j)).append (h.drop _)
theorem I9 {K : Value → World → Prop} {Y : List (Nat × Obj)} {t : TypeId} {x y : Operand} {i j : Nat} {v1 u : Value} {D : TypeInfo} (p : ST dd F w W μ (B ++ Y)) (h : lY e Rl k μ v l B) (h1 : lY e Rl k μ v1 (l.take i) B) (m : 0 < k) (O : P.underlying t = some (.slice e)) (L : P.info? e = some D) (r : D.size = k) (q : i ≤ j) (M : j ≤ l.length) (hu : xv k v j u) (Q : kV E x = v1) (R : kV E y = u) (J : ∀ W' n R', ST dd F w W' μ (R' ++ Y) → lY e Rl k μ v (yy l i j) R' → lY e Rl k μ n (l.take i ++ l.drop j) R' → K n W') : ov P E ⟨d, .call ⟨.builtin .append, #[x, y], #[t, t]⟩, ty, pos, af, g⟩ W K := by
 obtain ⟨cl, a, b⟩ := h
 obtain ⟨c1, A, I⟩ := h1
 have s : c1.length = i := by rw [I.length, cQ]; omega
 have z := lA.pre m a A (by rw [s, b.length]; omega)
 rw [s] at z
 subst z
 exact Kd p a A zb m MR O L r q (by rw [b.length]; exact M) hu Q R (fun W' n R' G a2 a3 => J W' n R' G ⟨_, a2, b.Uj i j⟩ ⟨_, a3, (b.take i).append (b.drop j)⟩)
theorem MJ {p : List β} {q : Value} {t : TypeId} {x n ih : Operand} {F m : IntKind} {a b : Int} (A : P.underlying t = some (.slice e)) (he : ∀ w, (sizeOf e).run P w = .ok k w) (j : 0 < k) (r : lY e Rl k μ v l B) (h1 : lY e Rl k μ q p B) (D : kV E x = q) (z : kV E n = .int F a) (y : kV E ih = .int m b) (ha : 0 ≤ a) (i : a ≤ b) (s : b = (l.length : Int)) (h : a = (p.length : Int)) : ∃ u, xv k v a.toNat u ∧ ∀ W, nc P E ⟨d, .slice t x (some n) (some ih) none, ty, pos, af, g⟩ W u W := by
 obtain ⟨cl, G, I⟩ := r
 obtain ⟨c1, J, L⟩ := h1
 exact N6 A he j G J D z y ha i (by rw [I.length]; exact s) (by rw [L.length]; exact h)
theorem Oa {t : TypeId} {x p ih q : Operand} {F j n : IntKind} {a b m : Int} (A : P.underlying t = some (.slice e)) (he : ∀ w, (sizeOf e).run P w = .ok k w) (r : lY e Rl k μ v l B) (D : kV E x = v) (z : kV E p = .int F a) (y : kV E ih = .int j b) (hm : kV E q = .int n m) (ha : 0 ≤ a) (h : a ≤ b) (s : b ≤ m) (i : m ≤ (l.length : Int)) : ∃ u, True ∧ ∀ W, nc P E ⟨d, .slice t x (some p) (some ih) (some q), ty, pos, af, g⟩ W u W := by
 obtain ⟨cl, G, I⟩ := r
 exact OS A he G D z y hm ha h s (by rw [I.length]; exact i)
theorem lY.OV {b d : List β} {i : Value} {R2 : List (Nat × Obj)} (a : 0 < k) (j : lY e Rl k μ v l B) (h1 : lY e Rl k μ i d B) (m : lY e Rl k μ v b R2) (n : d.length ≤ b.length) : lY e Rl k μ i (b.take d.length) R2 := by
 obtain ⟨cl, p, s⟩ := j
 obtain ⟨c1, q, g⟩ := h1
 obtain ⟨c2, r, h⟩ := m
 refine ⟨_, lA.OV a zb p q r (by rw [g.length, h.length]; exact n), ?_⟩
 rw [g.length]
 exact h.take _
end
section
variable {P : Program} {W : World} {E : Nat → Value} {d : Option Nat} {ty : TypeId} {pos : String} {af : Array Edge} {g : Option (Nat × Bool)}
theorem OK {i n : TypeId} {x y : Operand} {fv : Value} {s u : Array TypeId} {bb : Bool} (k : P.underlying i = some (.func s u bb)) (h : ∃ f a b, fv = .func f a b) (l : kV E x = fv) (m : kV E y = .nilFunc) :
  nc P E ⟨d, .binOp .neq i x y n, ty, pos, af, g⟩ W (.bool true) W := by
 obtain ⟨f, a, b, rfl⟩ := h
 show (do let r ← (do eqGuard .neq i x y (kV E x) (kV E y); binOp .neq i (kV E x) (kV E y)); pure (.value r) : Sem Next).run P W = _
 rw [l, m]
 have j := Gn 9999 k f a b W
 simp [eqGuard, binOp, Op.equal, show Op.maxDepth = 9999 + 1 from rfl, j]
end
end Go.Proofs.YtklbhegeiijbjaaGreat
namespace Go.Proofs.YtklbhegeiijbjaaGreat
open Go.RowKit
theorem bS {α β : Type} {m : Option α} {f : α → Option β} {r : β} {G : Prop} (h : m.bind f = some r) (k : ∀ x, m = some x → f x = some r → G) : G :=
 let ⟨x, a, b⟩ := bind_some h
 k x a b
theorem sj {α : Type} {a b : α} (h : some a = some b) : a = b := jB h
theorem bC {α : Type} {b : Bool} {x y r : α} {G : Prop} (h : (if b = true then x else y) = r) (a : b = true → x = r → G) (d : b = false → y = r → G) : G := by
 rcases No b with e | e
 ·exact a e (M0 e h)
 ·exact d e (M3 e h)
theorem cB {a b : Bool} (h : a = b) : Value.bool a = Value.bool b := bL Value.bool h
theorem nb {a b : Nat} (h : Nat.ble a b = true := by exact rfl) : a ≤ b := Nat.le_of_ble_eq_true h
def TP : Nat → Nat → List Bool
 | 0, _ => []
 | n + 1, m => (m % 2 == 1) :: TP n (m / 2)
def bm (n m : Nat) : Array Bool := (TP n m).toArray
section
variable {P : Program} {n : Nat} {Q : qK} {E : Nat → Value} {W : World}
theorem CI {α : Type} {co : Operand} {b : Bool} {x y : Code} {A B r : α} (hm : (if b = true then A else B) = r) (a : kV E co = .bool b) (g : b = true → A = r → CW P n x Q E W) (d : b = false → B = r → CW P n y Q E W) : CW P n (.cond co x y) Q E W :=
 M1 a (fun e => g e (M0 e hm)) (fun e => d e (M3 e hm))
theorem CJ {d ρ : Type} {m : Option d} {k : d → Option ρ} {r : ρ} {x : Code} {K : (Nat → Value) → World → Prop} (hm : m.bind k = some r) (I : d → (Nat → Value) → World → Prop) (h1 : ∀ s, m = some s → CW P n x (rb (I s) Q) E W) (g : ∀ s E W, I s E W → k s = some r → K E W) : CW P n x (rb K Q) E W :=
 let ⟨s, a, b⟩ := bind_some hm
 On (I s) (h1 s a) (fun E W h => g s E W h b)
theorem Sp {g ρ d : Type} {m : Option (d ⊕ g)} {k : d ⊕ g → Option ρ} {r : ρ} {x : Code} {K : (Nat → Value) → World → Prop} (hm : m.bind k = some r) (I : g → (Nat → Value) → World → Prop) (h1 : ∀ s, m = some s → k s = some r → CW P n x (rb (fun E W => ∃ t, s = .inr t ∧ I t E W) Q) E W) (i : ∀ s E W, I s E W → k (.inr s) = some r → K E W) : CW P n x (rb K Q) E W :=
 let ⟨s, a, b⟩ := bind_some hm
 On (fun E W => ∃ t, s = .inr t ∧ I t E W) (h1 s a b) (fun E W ⟨t, e, h⟩ => i t E W h (by subst e; exact b))
theorem LJ {d ρ : Type} {m : Option d} {k : d → Option ρ} {r : ρ} {ops : Array Oper} {rest : List Oper} (hm : m.bind k = some r) (I : d → (Nat → Value) → World → Prop) (j : Nat) (g : ∀ s E W, I s E W → k s = some r → LW P n ops Q (rest.drop j) E W) (h1 : ∀ s, m = some s → (∀ E W, I s E W → LW P n ops Q (rest.drop j) E W) → LW P n ops Q rest E W) : LW P n ops Q rest E W :=
 let ⟨s, a, b⟩ := bind_some hm
 h1 s a (fun E W h => g s E W h b)
theorem PJ {d ρ : Type} {m : Option d} {k : d → Option ρ} {r : ρ} {ops : Array Oper} {S : Array Bool → World → Prop} {fuel : Nat} {listed : Array Bool} (hm : m.bind k = some r) (I : d → (Nat → Value) → World → Prop) (i : Array Bool) (g : Nat) (j : ∀ s E W, I s E W → k s = some r → PX P n ops Q S g i E W) (h1 : ∀ s, m = some s → (∀ E W, I s E W → PX P n ops Q S g i E W) → PX P n ops Q S fuel listed E W) : PX P n ops Q S fuel listed E W :=
 let ⟨s, a, b⟩ := bind_some hm
 h1 s a (fun E W h => j s E W h b)
end
section
variable {dd : Bool} {P : Program} {fn : Func} {E : Nat → Value} {W w : World} {μ : lQ} {L : List (Nat × Obj)}
theorem rP {t : Tmp} {v : Value} (a : ST dd lU w W μ L) (b : fn.results = #[.tmp t] := by exact rfl) (d : E t = v := by exact rfl) : ze P fn (fun e W' => e = .returned v ∧ Ex dd w W') .ret E W := mD b d ⟨rfl, a.ex⟩
end
theorem ST.Bk {dd : Bool} {F : Nat → Prop} {w W : World} {μ : lQ} {x : Nat × Obj} {L : List (Nat × Obj)} (h : ST dd F w W μ (x :: L)) : ST dd F w W μ ([x] ++ L) := h
theorem ST.Ph {dd : Bool} {F : Nat → Prop} {w W : World} {μ : lQ} {L : List (Nat × Obj)} (h : ST dd F w W μ L) : ST dd F w W μ ([] ++ L) := h
theorem aL {E : Nat → Value} {ax : Array Operand} {l : List Value} (h : ax.toList.map (kV E) = l) : ax.map (kV E) ++ (#[] : Array Value) = l.toArray := by subst h; apply Array.ext'; simp
section
variable {dd : Bool}
variable {P : Program} {E : Nat → Value} {W : World} {d : Option Nat} {ty : TypeId} {pos : String} {af : Array Edge} {g : Option (Nat × Bool)}
 {F : Nat → Prop} {w : World} {μ : lQ} {L : List (Nat × Obj)}
variable {f : FuncId} {fv : Operand} {ax : Array Operand} {ats : Array TypeId} {args : List Value} {v : Value} {K : Value → World → Prop}
theorem Eg (a : ST dd F w W μ L) (he : ∀ args w, (callFunc f args).run P w = .ok (.enter f args) w) (b : lE dd P f args W v) (h : ∀ W', ST dd F w W' μ L → K v W') (i : kV E fv = .func (.func f) #[] #[] := by exact rfl) (ha : ax.toList.map (kV E) = args := by exact rfl) : ov P E ⟨d, .call ⟨.value fv, ax, ats⟩, ty, pos, af, g⟩ W K := FH a i he (aL ha) b h
theorem vh {α : Type} {e : TypeId} {enc : α → List Value} {k : Nat} {l : List α} {Y : List (Nat × Obj)} (a : ST dd F w W μ Y) (he : ∀ args w, (callFunc f args).run P w = .ok (.enter f args) w) (b : nA dd P f args W e enc k l) (h : ∀ W' v μ' R, ST dd F w W' μ' (R ++ Y) → lu μ μ' → Lo F w μ μ' → lA e enc k v l R → K v W') (i : kV E fv = .func (.func f) #[] #[] := by exact rfl) (ha : ax.toList.map (kV E) = args := by exact rfl) : ov P E ⟨d, .call ⟨.value fv, ax, ats⟩, ty, pos, af, g⟩ W K := Mu _ a i he (aL ha) b h
theorem F7 {K' : Value → List (Nat × Obj) → World → Prop} {L0 L2 : List (Nat × Obj)} (i : ST dd F w W μ L) (j : L.Perm (L0 ++ L2)) (he : ∀ args w, (callFunc f args).run P w = .ok (.enter f args) w) (k : E7 L0 W → (L0.map (·.1)).Nodup → lu μ (vI W L0) → (∀ b o, (b, o) ∈ L2 → vI W L0 b = some o) → mZ dd P f args W L0 K') (h : ∀ W' v μ' L1, ST dd F w W' μ' (L1 ++ L2) → lu μ μ' → Lo F w μ μ' → (∀ b, W.heap.size ≤ b → ∀ o, vI W' L1 b = some o → μ' b = some o) → K' v L1 W' → K v W') (l : kV E fv = .func (.func f) #[] #[] := by exact rfl) (ha : ax.toList.map (kV E) = args := by exact rfl) : ov P E ⟨d, .call ⟨.value fv, ax, ats⟩, ty, pos, af, g⟩ W K :=
 QN L0 L2 i j l he (aL ha) (fun a b c d => by have := k a b c d; simpa using this) h
theorem L8 {K' : Value → List (Nat × Obj) → lQ → Prop} {L0 L2 : List (Nat × Obj)} (i : ST dd F w W μ L) (j : L.Perm (L0 ++ L2)) (he : ∀ args w, (callFunc f args).run P w = .ok (.enter f args) w) (k : E7 L0 W → (L0.map (·.1)).Nodup → lu μ (vI W L0) → (∀ b o, (b, o) ∈ L2 → vI W L0 b = some o) → ms dd P f args W μ L0 K') (h : ∀ W' v μ' L1, ST dd F w W' μ' (L1 ++ L2) → lu μ μ' → Lo F w μ μ' → K' v L1 μ' → K v W') (l : kV E fv = .func (.func f) #[] #[] := by exact rfl) (ha : ax.toList.map (kV E) = args := by exact rfl) : ov P E ⟨d, .call ⟨.value fv, ax, ats⟩, ty, pos, af, g⟩ W K :=
 GP L0 L2 i j l he (aL ha) (fun a b c d => by have := k a b c d; simpa using this) h
end
section
variable {E : Nat → Value} {x1 x2 x3 x4 x5 x6 x7 x8 : Operand} {v1 v2 v3 v4 v5 v6 v7 v8 : Value}
theorem TR (h1 : kV E x1 = v1) : [x1].map (kV E) = [v1] := by rw [← h1]; rfl
theorem P9 (h1 : kV E x1 = v1) (a : kV E x2 = v2) : [x1, x2].map (kV E) = [v1, v2] := by rw [← h1, ← a]; rfl
end
def IT (P : Program) (n : Nat) (c : Code) (Q : qK) : Nat → (Nat → Value) → World → Prop
 | 0, _, _ => False
 | k + 1, E, W => CW P n c (rb (IT P n c Q k) Q) E W
theorem Im {P : Program} {n : Nat} {c : Code} {Q : qK} {E : Nat → Value} {W : World} {k : Nat} (h : CW P n c (rb (IT P n c Q k) Q) E W) : IT P n c Q (k + 1) E W := h
theorem IT.rounds {P : Program} {n : Nat} {c : Code} {Q : qK} : ∀ (k : Nat) {E : Nat → Value} {W : World}, IT P n c Q k E W → ∀ a, Ag n a E → Code.rounds P c (lift n Q) k a W
 | 0, _, _, h, _, _ => h.elim
 | k + 1, E, W, h, a, ha => wp_mono (h a ha) (fun e g j d => by
  cases e with
  | normal => obtain ⟨E', b, i⟩ := d; exact IT.rounds k i g b
  | _ => exact d)
theorem NW {P : Program} {n : Nat} {c : Code} {Q : qK} {E : Nat → Value} {W : World} (k : Nat) (h : IT P n c Q k E W) : CW P n (.loop c) Q E W := fun a ha => wp_loop_rounds k (IT.rounds k h a ha)
theorem Bx {P : Program} {E : Nat → Value} {W : World} {d : Option Nat} {ty : TypeId} {pos : String} {af : Array Edge} {g : Option (Nat × Bool)} {t e m k b o : Nat} {x a : Operand} {r : IntKind} {i : Int} (p : P.underlying t = some (.array m e)) (he : ∀ w, (sizeOf e).run P w = .ok k w) (q : kV E x = .pointer (some ⟨b, o, none⟩)) (l : kV E a = .int r i) (h : 0 ≤ i) (n : i < (m : Int)) : nc P E ⟨d, .indexAddr t x a, ty, pos, af, g⟩ W (.pointer (some ⟨b, o + i.toNat * k, none⟩)) W := by
 show (do pure (.value (← Instr.indexAt t (kV E x) (kV E a))) : Sem Next).run P W = _
 rw [q, l]
 have j : 0 ≤ i ∧ i < (m : Int) := ⟨h, n⟩
 simp [Instr.indexAt, asIntOf, aV p, he W, j, Instr.sureAddr, dG]
end Go.Proofs.YtklbhegeiijbjaaGreat
namespace Go.Proofs.YtklbhegeiijbjaaGreat
open Go.RowKit
def Uy (R : List (Nat × Obj)) (k : Nat) (p : Value) (i a : Nat) : Prop := ∃ g o, R = [(g, o)] ∧ p = .pointer (some ⟨g, i * k + a, none⟩)
theorem BL.f {R : List (Nat × Obj)} {k : Nat} {p : Value} {i : Nat} (h : BL R k p i) : Uy R k p i 0 := h
section
variable {P : Program} {E : Nat → Value} {W : World} {d : Option Nat} {ty : TypeId} {pos : String} {af : Array Edge} {g : Option (Nat × Bool)}
 {dd : Bool} {F : Nat → Prop} {w : World} {μ : lQ} {L : List (Nat × Obj)} {α : Type} {e' : TypeId} {enc : α → List Value} {k : Nat} {v : Value} {l : List α} {R : List (Nat × Obj)}
theorem lA.put (h : lA e' enc k v l R) (hk : ∀ x, (enc x).length = k) {p : Value} {i : Nat} (hp : BL R k p i) {x0 : α} (t : l[i]? = some x0) (x1 : α) :
  ∃ g a, R = [(g, .cells a e' (0, 0))] ∧ p = .pointer (some ⟨g, i * k, none⟩) ∧ i * k + k ≤ a.size ∧ (∀ j y, (enc x0)[j]? = some y → a[i * k + j]? = some y) ∧
   lA e' enc k v (l.set i x1) [(g, .cells (a.toList.take (i * k) ++ enc x1 ++ a.toList.drop (i * k + k)).toArray e' (0, 0))] := by
 have n : i < l.length := (bM.1 t).1
 obtain ⟨r, a, cap, rfl, rfl, s, z, m, A, rfl, D⟩ := BP h hk hp t
 have hle : i * k + k ≤ cap * k := by
  have : (i + 1) * k ≤ cap * k := cI _ (by omega)
  rwa [cP, ku] at this
 have b : i * k + k ≤ l.length * k := by
  have : (i + 1) * k ≤ l.length * k := cI _ (by omega)
  rwa [cP, ku] at this
 have hlen : l.length * k ≤ cap * k := cI _ s
 refine ⟨r, a, rfl, rfl, by rw [m]; exact hle, D, .inr ⟨r, cap, _, by simp, rfl, by simpa using s, z, ?_, ?_⟩⟩
 ·show ((a.toList.take (i * k) ++ (enc x1) ++ a.toList.drop (i * k + k)).toArray).size = _
  have d : a.toList.length = cap * k := by simpa using m
  rw [dV, aF, aF, cQ, eP, hk, d, dE (by omega)]; omega
 ·rw [jA, Gl hk l i x1 n, ← A]
  have u : (a.toList.take (l.length * k)).take (i * k) = a.toList.take (i * k) := by rw [iG]; congr 1; omega
  have w : (a.toList.take (l.length * k)).drop (i * k + k) = (a.toList.drop (i * k + k)).take (l.length * k - (i * k + k)) := by rw [jf]
  rw [u, w]
  show List.take (l.length * k) (a.toList.take (i * k) ++ enc x1 ++ a.toList.drop (i * k + k)) = _
  have d : a.toList.length = cap * k := by simpa using m
  have q : (a.toList.take (i * k) ++ enc x1).length = i * k + k := by rw [aF, cQ, hk, d, dE (by omega)]
  rw [fV, dN (by rw [q]; exact b), q]
end
end Go.Proofs.YtklbhegeiijbjaaGreat
namespace Go.Proofs.YtklbhegeiijbjaaGreat
open Go.RowKit
theorem oc {v : Value} (h : v.cells.toList.all Value.oneCell' = true := by exact rfl) : ∀ u ∈ v.cells.toList, u.oneCell' = true := gP.1 h
theorem dc {p : Prop} [Decidable p] (h : p := by decide) : p := h
theorem kr {p : Prop} (h : p := by kernel_rfl) : p := h
theorem br {α : Sort _} {a b : α} (h : a = b := by rfl) : a = b := h
abbrev LO := List (Nat × Obj)
abbrev Ob (c : Array Value) (t : TypeId) : Obj := .cells c t (0, 0)
abbrev Ol (c : List Value) (t : TypeId) : Obj := .cells c.toArray t (0, 0)
theorem nj {P : Program} {t e : TypeId} {m k : Nat} {z : Value} {a : Array (Nat × Value)} {cs : Array Value} (j : P.underlying t = some (.slice e)) (i : ∀ w, (sizeOf e).run P w = .ok k w) (n : ∀ w, (zeroValue e).run P w = .ok z w) (hm : m * k ≤ 16777216 := by decide) (g : a.toList = (a.toList.map (·.2)).zipIdx.map (fun p => (p.2, p.1)) := by exact rfl) (l : (a.toList.map (·.2)).all (fun v => v.cells.size == k) = true := by exact rfl) (d : (a.toList.map (·.2)).length = m := by exact rfl) (b : ((a.toList.map (·.2)).flatMap (fun v => v.cells.toList)).toArray = cs := by exact rfl) (W : World) :
  (Instr.buildSlice t m a).run P W = .ok (.slice (some ⟨W.heap.size, 0, none⟩) m m) (W.alloc (.cells cs e (0, 0))) :=
 Ax _ j i n hm g (fun v h => eq_of_beq (gP.1 l v h)) d b W
section
variable {dd : Bool} {P : Program} {fn : Func} {E : Nat → Value} {W w : World} {μ : lQ} {L L0 : List (Nat × Obj)}
theorem rQ {α : Type} {f : α → Value} {a r : α} {t : Tmp} (hm : some a = some r) (b : ST dd lU w W μ L) (d : fn.results = #[.tmp t] := by exact rfl) (g : E t = f a := by exact rfl) : ze P fn (fun e W' => e = .returned (f r) ∧ Ex dd w W') .ret E W := by
 obtain rfl := sj hm; exact mD d g ⟨rfl, b.ex⟩
theorem cG (n : Nat) {f : FuncId} {c : Code} {args : List Value} {v : Value} (a : P.funcs[f]? = some fn) (b : fn.body = some c) (h : ST dd lU w w (hp w) [] → CW P n c (ze P fn (fun e i => e = .returned v ∧ Ex dd w i)) (DL args) w) (g : fn.ntmps = n := by exact rfl) (d : args.length ≤ n := by exact nb) : lE dd P f args w v := AI a b g d (h (ST.start w))
theorem wM {K : Value → List (Nat × Obj) → World → Prop} (n : Nat) {f : FuncId} {c : Code} {args : List Value} (a : P.funcs[f]? = some fn) (d : fn.body = some c) (h : ST dd lU w w (hp w) [] → CW P n c (ze P fn (fun e b => ∃ v L1, e = .returned v ∧ vj dd [] L1 w b ∧ K v L1 b)) (DL args) w) (i : fn.ntmps = n := by exact rfl) (g : args.length ≤ n := by exact nb) : mZ dd P f args w [] K := AI a d i g (h (ST.start w))
theorem BT {K : Value → List (Nat × Obj) → World → Prop} (d : oC μ L0 w) (n : Nat) {f : FuncId} {c : Code} {args : List Value} (a : P.funcs[f]? = some fn) (g : fn.body = some c) (h : ST dd (keys L0) w w μ L0 → CW P n c (ze P fn (fun e b => ∃ v L1, e = .returned v ∧ vj dd L0 L1 w b ∧ K v L1 b)) (DL args) w) (j : fn.ntmps = n := by exact rfl) (i : args.length ≤ n := by exact nb) : mZ dd P f args w L0 K := AI a g j i (h (ST.OB d))
theorem tp {K : Value → List (Nat × Obj) → lQ → Prop} (d : oC μ L0 w) (n : Nat) {f : FuncId} {c : Code} {args : List Value} (a : P.funcs[f]? = some fn) (g : fn.body = some c) (h : ST dd (keys L0) w w μ L0 → CW P n c (ze P fn (fun e b => ∃ v L1 μ1, e = .returned v ∧ vj dd L0 L1 w b ∧ lu μ μ1 ∧ Lo (keys L0) w μ μ1 ∧ lu μ1 (vI b L1) ∧ K v L1 μ1)) (DL args) w) (j : fn.ntmps = n := by exact rfl) (i : args.length ≤ n := by exact nb) : ms dd P f args w μ L0 K := AI a g j i (h (ST.OB d))
end
section
variable {dd : Bool}
variable {P : Program} {E : Nat → Value} {W : World} {d : Option Nat} {ty : TypeId} {pos : String} {af : Array Edge} {g : Option (Nat × Bool)}
 {F : Nat → Prop} {w : World} {μ : lQ} {L : List (Nat × Obj)}
variable {f : FuncId} {fv : Operand} {ax : Array Operand} {ats : Array TypeId} {args : List Value} {v : Value} {K : Value → World → Prop}
theorem eM {K' : Value → List (Nat × Obj) → World → Prop} {L0 L2 : List (Nat × Obj)} (i : ST dd F w W μ L) (j : L.Perm (L0 ++ L2)) (he : ∀ args w, (callFunc f args).run P w = .ok (.enter f args) w) (k : oC (vI W L0) L0 W → lu μ (vI W L0) → mZ dd P f args W L0 K') (h : ∀ W' v μ' L1, ST dd F w W' μ' (L1 ++ L2) → lu μ μ' → Lo F w μ μ' → (∀ b, W.heap.size ≤ b → ∀ o, vI W' L1 b = some o → μ' b = some o) → K' v L1 W' → K v W') (l : kV E fv = .func (.func f) #[] #[] := by exact rfl) (ha : ax.toList.map (kV E) = args := by exact rfl) : ov P E ⟨d, .call ⟨.value fv, ax, ats⟩, ty, pos, af, g⟩ W K :=
 F7 i j he (fun a b c _ => k ⟨a, b, lu.refl _⟩ c) h l ha
theorem eD {K' : Value → List (Nat × Obj) → lQ → Prop} {L0 L2 : List (Nat × Obj)} (i : ST dd F w W μ L) (j : L.Perm (L0 ++ L2)) (he : ∀ args w, (callFunc f args).run P w = .ok (.enter f args) w) (k : oC μ L0 W → ms dd P f args W μ L0 K') (h : ∀ W' v μ' L1, ST dd F w W' μ' (L1 ++ L2) → lu μ μ' → Lo F w μ μ' → K' v L1 μ' → K v W') (l : kV E fv = .func (.func f) #[] #[] := by exact rfl) (ha : ax.toList.map (kV E) = args := by exact rfl) : ov P E ⟨d, .call ⟨.value fv, ax, ats⟩, ty, pos, af, g⟩ W K :=
 L8 i j he (fun a b c _ => k ⟨a, b, c⟩) h l ha
end
def N4 (op : BinOp) : Value → Value → Option Value
 | .int k a, .int k' b => if k = k' then Js k op a b else none
 | _, _ => none
def R7 (i : Nat) : Value → Option Value
 | .tuple vs => vs[i]?
 | _ => none
def JC : Value → Bool
 | .pointer (some ⟨_, _, none⟩) => true
 | _ => false
def RV (o : Nat) : Value → Value
 | .pointer (some ⟨b, k, none⟩) => .pointer (some ⟨b, k + o, none⟩)
 | v => v
theorem IS {v : Value} (h : JC v = true) : ∃ b k, v = .pointer (some ⟨b, k, none⟩) := by
 unfold JC at h; split at h
 ·exact ⟨_, _, rfl⟩
 ·cases h
section
variable {P : Program} {n : Nat} {Q : qK} {E : Nat → Value} {W : World} {ops : Array Oper} {rest : List Oper}
 {d j t : Nat} {want b : Bool} {v : Value} {ins : Go.Op} {ty : TypeId} {pos : String} {af : Array Edge} {A : Value → Prop} {x y : Operand}
theorem Wm (h : LW P n ops Q rest (oI E d (kV E x)) W) (a : d < n := by decide) : LW P n ops Q (⟨some d, .move x, ty, pos, af, none⟩ :: rest) E W := V (kT rfl) h a
theorem Wa (h : LW P n ops Q rest (oI E d (kV E x)) W) (a : d < n := by decide) : LW P n ops Q (⟨some d, .assign x, ty, pos, af, none⟩ :: rest) E W := V (od rfl) h a
theorem Wh (b : kV E x = v) (h : LW P n ops Q rest (oI E d v) W) (a : d < n := by decide) : LW P n ops Q (⟨some d, .move x, ty, pos, af, none⟩ :: rest) E W := V (kT b) h a
theorem Wg (b : kV E x = v) (h : LW P n ops Q rest (oI E d v) W) (a : d < n := by decide) : LW P n ops Q (⟨some d, .assign x, ty, pos, af, none⟩ :: rest) E W := V (od b) h a
theorem Wx {i : Nat} (a : R7 i (kV E x) = some v) (h : LW P n ops Q rest (oI E d v) W) (b : d < n := by decide) : LW P n ops Q (⟨some d, .extract x i, ty, pos, af, none⟩ :: rest) E W := by
 unfold R7 at a; split at a
 ·rename_i vs e; exact V (Fi e a) h b
 ·cases a
theorem Wi {op : BinOp} {p m : TypeId} (g : N4 op (kV E x) (kV E y) = some v) (h : LW P n ops Q rest (oI E d v) W) (l : d < n := by decide) : LW P n ops Q (⟨some d, .binOp op p x y m, ty, pos, af, none⟩ :: rest) E W := by
 unfold N4 at g; split at g
 ·rename_i k a k' b i j
  split at g
  ·rename_i e; subst e; exact V (lR i j g) h l
  ·cases g
 ·cases g
theorem Wf {t : TypeId} {f off : Nat} (a : nl P t f off) (h : LW P n ops Q rest (oI E d (RV off (kV E x))) W) (hp : JC (kV E x) = true := by exact rfl) (g : d < n := by decide) : LW P n ops Q (⟨some d, .fieldAddr t x f, ty, pos, af, none⟩ :: rest) E W := by
 obtain ⟨b, k, e⟩ := IS hp
 refine V (kP a e) ?_ g
 rw [e] at h; exact h
theorem Wn (h : LW P n ops Q rest (oI E d (kV E x)) W) (hp : JC (kV E x) = true := by exact rfl) (a : d < n := by decide) : LW P n ops Q (⟨some d, .nilCheck x, ty, pos, af, none⟩ :: rest) E W := by
 obtain ⟨b, k, e⟩ := IS hp
 refine V (nz e) ?_ a
 rw [e] at h; exact h
theorem un (h : b = !want) (k : LW P n ops Q rest (oI E d undef) W) (g : (ops[j]?).bind (·.dst) = some t := by exact rfl) (a : E t = .bool b := by exact rfl) (l : t < n := by decide) (i : d < n := by decide) :
  LW P n ops Q (⟨some d, ins, ty, pos, af, some (j, want)⟩ :: rest) E W := Vn g (by rw [a, h]) k l i
theorem ug (h : b = want) (l : nc P E ⟨some d, ins, ty, pos, af, some (j, want)⟩ W v W) (k : LW P n ops Q rest (oI E d v) W) (g : (ops[j]?).bind (·.dst) = some t := by exact rfl) (a : E t = .bool b := by exact rfl) (m : t < n := by decide) (i : d < n := by decide) :
  LW P n ops Q (⟨some d, ins, ty, pos, af, some (j, want)⟩ :: rest) E W := Vg g (by rw [a, h]) l k m i
theorem tm (h : b = want) (k : ov P E ⟨some d, ins, ty, pos, af, some (j, want)⟩ W fun v W' => LW P n ops Q rest (oI E d v) W') (g : (ops[j]?).bind (·.dst) = some t := by exact rfl) (a : E t = .bool b := by exact rfl) (l : t < n := by decide) (i : d < n := by decide) :
  LW P n ops Q (⟨some d, ins, ty, pos, af, some (j, want)⟩ :: rest) E W := Ox g (by rw [a, h]) k l i
theorem Uq (h : b = want) (l : ∃ p, A p ∧ ∀ W, nc P E ⟨some d, ins, ty, pos, af, some (j, want)⟩ W p W) (k : ∀ p, A p → LW P n ops Q rest (oI E d p) W) (g : (ops[j]?).bind (·.dst) = some t := by exact rfl) (a : E t = .bool b := by exact rfl) (m : t < n := by decide) (i : d < n := by decide) :
  LW P n ops Q (⟨some d, ins, ty, pos, af, some (j, want)⟩ :: rest) E W := Uz g (by rw [a, h]) l k m i
section
variable {dd : Bool} {F : Nat → Prop} {w : World} {μ : lQ} {L : List (Nat × Obj)} {T : TypeId} {a off : Nat} {cs : Array Value} {fr : Nat × Nat}
theorem VA {t : TypeId} (b : ST dd F w W μ L) (i : (a, Obj.cells cs T fr) ∈ L) (ys : List Value) (g : ∀ w, (isAgg t).run P w = .ok true w) (j : ∀ w, (sizeOf t).run P w = .ok ys.length w) (h : LW P n ops Q rest (oI E d (.agg ys.toArray)) W) (l : kV E x = .pointer (some ⟨a, off, none⟩) := by exact rfl) (m : (cs.toList.drop off).take ys.length = ys := by exact rfl) (k : d < n := by decide) : LW P n ops Q (⟨some d, .load t x, ty, pos, af, none⟩ :: rest) E W := V (kI l (kO b.has i ys m g j)) h k
theorem VB {t : TypeId} (b : ST dd F w W μ L) (i : (a, Obj.cells cs T fr) ∈ L) (k : kV E x = .pointer (some ⟨a, off, none⟩)) (l : cs[off]? = some v) (g : ∀ w, (isAgg t).run P w = .ok false w) (h : LW P n ops Q rest (oI E d v) W) (j : d < n := by decide) : LW P n ops Q (⟨some d, .load t x, ty, pos, af, none⟩ :: rest) E W := V (kI k (lg b.has i l g)) h j
end
section
variable {K : (Nat → Value) → World → Prop} {Q' : qK} {c : Code} {id id2 : Nat} {l : List Oper} {z : Code}
theorem sg (h : LW P n l.toArray (rb (fun E W => CW P n c Q E W) Q) l E W) : CW P n (.seq (.region id l.toArray false) c) Q E W := kZ (kW h)
theorem ln (h : K E W) : LW P n ops (rb K Q) [] E W := lH (kU h)
theorem lr (h : LW P n l.toArray (rb (fun E W => CW P n c Q E W) Q) l E W) : LW P n ops (rb (fun E W => CW P n (.seq (.region id l.toArray false) c) Q E W) Q') [] E W := lH (kU (kZ (kW h)))
theorem lS (h : LW P n l.toArray (rb (fun E W => CW P n c (rb (fun E W => CW P n z Q E W) Q) E W) (rb (fun E W => CW P n z Q E W) Q)) l E W) : LW P n ops (rb (fun E W => CW P n (.seq (.seq (.region id l.toArray false) c) z) Q E W) Q') [] E W := lH (kU (kZ (kZ (kW h))))
theorem bg (h : LW P n l.toArray (rb (fun E W => CW P n c (xC id2 Q) E W) (xC id2 Q)) l E W) : CW P n (.block id2 (.seq (.region id l.toArray false) c)) Q E W := mK (kZ (kW h))
theorem kg (h : LW P n l.toArray (rb (fun E W => CW P n c Q E W) Q) l E W) : CW P n .skip (rb (fun E W => CW P n (.seq (.region id l.toArray false) c) Q E W) Q') E W := mr (kU (kZ (kW h)))
theorem kS (h : LW P n l.toArray (rb (fun E W => CW P n c (rb (fun E W => CW P n z Q E W) Q) E W) (rb (fun E W => CW P n z Q E W) Q)) l E W) : CW P n .skip (rb (fun E W => CW P n (.seq (.seq (.region id l.toArray false) c) z) Q E W) Q') E W := mr (kU (kZ (kZ (kW h))))
theorem lt (h : Q .ret E W) : LW P n ops (rb (fun E W => CW P n .ret Q E W) Q') [] E W := lH (kU (lC h))
theorem kn (h : K E W) : CW P n .skip (rb K Q) E W := mr (kU h)
end
end
end Go.Proofs.YtklbhegeiijbjaaGreat
namespace Go.Proofs.YtklbhegeiijbjaaGreat
open Go.Sort Go.Proofs Go.Shelf
theorem GG {g b : Nat} {o : Obj} : keys [(g, o)] b ↔ b = g := by
 constructor
 ·rintro ⟨a, h⟩
  simp at h
  exact h.1
 ·rintro rfl; exact ⟨o, by simp⟩
theorem CR (w : World) (g m : Nat) (f : Array Value → Array Value) (os : Array Obj) (b : Nat) (d : b < w.heap.size) :
  (Go.Sort.grow (mapBlock (Go.Sort.ahead w m) g f) os).heap[b]? = if g = b then w.heap[b]?.map (onCells f) else w.heap[b]? := by
 have a : b < (mapBlock (Go.Sort.ahead w m) g f).heap.size := by simp only [mapBlock, Go.Sort.ahead, Array.size_modify]; exact d
 rw [heap_grow_old _ _ a]
 simp only [mapBlock, Go.Sort.ahead, eU]
theorem KZ {w : World} {g m : Nat} {f : Array Value → Array Value} {os : Array Obj} {cs : Array Value} {T : TypeId} {fr : Nat × Nat} (d : w.heap[g]? = some (.cells cs T fr)) :
  vj true [(g, .cells cs T fr)] [(g, .cells (f cs) T fr)] w (Go.Sort.grow (mapBlock (Go.Sort.ahead w m) g f) os) := by
 have a : g < w.heap.size := (dU.1 d).1
 refine ⟨⟨rfl, rfl, rfl, ?_, ?_, fun b i j => ?_⟩, fun b o h => ?_, by simp⟩
 ·refine ve.of ?_
  show w.drawn ≤ w.drawn + m
  omega
 ·show w.heap.size ≤ (w.heap.modify g (onCells f) ++ os).size
  simp
 ·rw [CR _ _ _ _ _ _ i, bB fun h => j (GG.2 h.symm)]
 ·simp only [aQ, dM, gV, Prod.mk.injEq] at h
  obtain ⟨rfl, rfl⟩ := h
  refine ⟨?_, .inr (GG.2 rfl)⟩
  rw [CR _ _ _ _ _ _ a, aX rfl, d]
  rfl
theorem MD {w W : World} (h : Ex true w W) : ∃ q os, W = Go.Sort.grow (w.drewN q) os := by
 refine ⟨W.drawn - w.drawn, W.heap.extract w.heap.size W.heap.size, ?_⟩
 have g : W.heap = w.heap ++ W.heap.extract w.heap.size W.heap.size := by
  apply Array.ext_getElem?
  intro i
  rw [Array.getElem?_append]
  split
  ·rename_i j; exact h.nI i j
  ·rename_i j
   rw [Array.getElem?_extract]
   have l := h.size
   split
   ·rw [show w.heap.size + (i - w.heap.size) = i by omega]
   ·exact Array.getElem?_eq_none (by omega)
 obtain ⟨h1, m, n, p, r⟩ := W
 have a := h.os; have b := h.tape; have d := h.output; have k := h.drawn rfl
 simp only at a b d k g
 unfold Go.Sort.grow World.drewN
 simp only [World.mk.injEq]
 exact ⟨g, b, by omega, a, d⟩
theorem LL {α : Type} [Inhabited α] {enc : α → List Value} {k : Nat} (hk : ∀ x, (enc x).length = k) (l : List α) (j : Nat) (a : j < l.length * k) :
  (l.map enc).flatten[j]? = some ((flatK enc k l.toArray)[j]!) := by
 have g : 0 < k := by
  cases k with
  | zero => simp at a
  | succ n => omega
 have h1 : j / k < l.length := (js g).2 a
 rw [get_flatK _ _ _ _ (by simpa using a)]
 have h : l.toArray[j / k]! = l[j / k] := by
  rw [getElem!_pos l.toArray (j / k) (by simpa using h1)]; simp
 rw [h]
 have b : j % k < (enc l[j / k]).length := by rw [hk]; exact Nat.mod_lt _ g
 have d := xN hk l (j / k) l[j / k] (dB h1) (j % k) ((enc l[j / k])[j % k]) (dB b)
 rw [Nat.div_add_mod' j k] at d
 rw [d, getElem!_pos (enc l[j / k]) (j % k) b]
theorem Jd {α : Type} [Inhabited α] {enc : α → List Value} {k : Nat} (hk : ∀ x, (enc x).length = k) {w : World} {g : Nat} {cs : Array Value} {T : TypeId} (b : w.heap[g]? = some (.cells cs T (0, 0))) (l : List α)
  (h : cs.toList.take (l.length * k) = (l.map enc).flatten) : HoldsK enc k w g 0 l.toArray := by
 intro j d
 have a : j < l.length * k := by simpa using d
 have h1 := LL hk l j a
 rw [← h, gS, aX a] at h1
 refine ⟨?_, ?_⟩
 ·simp only [World.cell?, b, fO]
  simpa using h1
 ·simp [World.frozen?, b]
theorem Ll {α : Type} [Inhabited α] {enc : α → List Value} {k : Nat} (hk : ∀ x, (enc x).length = k) {cs : Array Value} (l : List α) (b : l.length * k ≤ cs.size) :
  (putCells id 0 (flatK enc k l.toArray) cs).toList.take (l.length * k) = (l.map enc).flatten := by
 apply fM
 intro j
 rw [gS]
 split
 ·rename_i a
  rw [LL hk l j a]
  simp only [putCells, dT, Array.getElem?_mapIdx, size_flatK, dV]
  rw [Array.getElem?_eq_getElem (by omega)]
  simp [a]
 ·rename_i a
  rw [iw (by rw [pL hk]; omega)]
theorem Jr (enc : Value → Value) (o : Nat) (d c : Array Value) : (putCells enc o d c).size = c.size := by simp [putCells]
section
variable {α : Type} {P : Program} {ρ : Ren}
theorem Sj {l : List α} {cf : α × α → Option Int} (h : EV cf l) : SWO (ltOf fun (x y : {x // x ∈ l}) => (cf (x.1, y.1)).getD 0) ∧
  (∀ x y : {x // x ∈ l}, ltOf (fun (x y : {x // x ∈ l}) => (cf (x.1, y.1)).getD 0) x y = vt cf x.1 y.1) := by
 have e : ∀ x y : {x // x ∈ l}, ltOf (fun (x y : {x // x ∈ l}) => (cf (x.1, y.1)).getD 0) x y = vt cf x.1 y.1 := fun x y => by
  obtain ⟨c, g⟩ := h.is x.1 x.2 y.1 y.2
  simp [ltOf, vt, g]
 refine ⟨⟨fun x => ?_, fun x y z => ?_, fun x y z => ?_⟩, e⟩
 ·rw [e]; exact h.irrefl _ x.2
 ·rw [e, e, e]; exact h.trans _ x.2 _ y.2 _ z.2
 ·rw [e, e, e]
  intro h1 b
  cases a : vt cf x.1 z.1 with
  | false => rfl
  | true =>
   cases d : vt cf y.1 x.1 with
   | true =>
    have := h.trans _ y.2 _ x.2 _ z.2 d a
    rw [b] at this; cases this
   | false =>
    have := h.total _ x.2 _ y.2 h1 d
    rw [this, b] at a; cases a
theorem Lt (L : SlLaysF0.n6 P ρ) (k : Nat) (aE : ∀ w, (isAgg (ρ.t 24)).run P w = .ok true w) (zE : ∀ w, (Go.sizeOf (ρ.t 24)).run P w = .ok k w) {e : TypeId} (enc : α → List Value) (hk : ∀ x, (enc x).length = k) (h1 : ∀ x, ∀ u ∈ enc x, u.oneCell' = true) {v fv : Value} {l r : List α} {R : List (Nat × Obj)} {cf : α × α → Option Int} {w : World} {μ0 : lQ} (hH : E7 (R ++ []) w) (A : lu μ0 (vI w (R ++ []))) (U : lA e enc k v l R) (hc : TK P fv μ0 (fun (x : α × α) => [(.agg (enc x.1).toArray), (.agg (enc x.2).toArray)]) (fun (r : Int) => (.int .i64 r)) cf) (hm : AL cf l = some r) :
  mZ true P (ρ.f 6) [v, fv] w (R ++ []) (fun u L1 _ => ∃ (S : List (Nat × Obj)), u = (.tuple #[]) ∧ L1 = (S ++ []) ∧ lA e enc k v r S) := by
 obtain ⟨ok, rfl⟩ := HL hm
 rw [bG] at hH A ⊢
 rcases fG l.length with h0 | i
 ·have hl : l = [] := aU h0
  subst hl
  have W : uK cf ([] : List α) = [] := by simp [uK]
  rw [W]
  obtain ⟨p, c, rfl⟩ : ∃ p c, v = .slice p 0 c := by
   rcases U with ⟨rfl, _, _⟩ | ⟨g, cap, j, rfl, _⟩
   ·exact ⟨_, _, rfl⟩
   ·exact ⟨_, _, rfl⟩
  refine dZ (AnyF.slices_SortFunc_none L p c fv w) fun x w' ⟨hx, hw⟩ => ?_
  subst hx hw
  refine ⟨_, R, rfl, ⟨⟨rfl, rfl, rfl, ve.of (aZ _), aZ _, fun _ _ _ => rfl⟩, fun b o h => ⟨hH b o h, .inr ⟨o, h⟩⟩, ?_⟩, R, rfl, (bG R).symm, U⟩
  rcases U with ⟨_, _, rfl⟩ | ⟨g, cap, j, _, rfl, _⟩ <;> simp
 ·rcases U with ⟨_, rfl, _⟩ | ⟨g, cap, j, rfl, rfl, a6, a1, I, ab⟩
  ·simp at i
  have hg : w.heap[g]? = some (.cells j e (0, 0)) := hH g _ (by simp)
  have a7 : g < w.heap.size := (dU.1 hg).1
  haveI : Inhabited {x // x ∈ l} := ⟨⟨l[0], List.getElem_mem i⟩⟩
  obtain ⟨gg, caps, rfl, J, q⟩ := hc
  obtain ⟨hO, M⟩ := Sj ok
  have D : l.attach.toArray.size = l.length := by simp
  have a8 : l.attach.map (fun x => enc x.1) = l.map enc := by
   rw [show (fun x : {x // x ∈ l} => enc x.1) = enc ∘ Subtype.val from rfl, ← fJ, List.attach_map_subtype_val]
  have Y : HoldsK (fun x : {x // x ∈ l} => enc x.1) k w g 0 l.attach.toArray := Jd (fun x => hk x.1) hg l.attach (by rw [a8, List.length_attach, ab])
  have G : CmpLays P gg caps (fun x : {x // x ∈ l} => enc x.1) k (fun x y => (cf (x.1, y.1)).getD 0) g 0 l.attach.toArray.size w := by
   intro m os dk ae x y
   obtain ⟨c, F⟩ := ok.is x.1 x.2 y.1 y.2
   have T : lu μ0 (hp (sortWorldK (fun x : {x // x ∈ l} => enc x.1) k w g 0 m dk os)) := fun b o hb => by
    have z := A b o hb
    unfold vI at z
    split at z
    ·cases z
    ·rename_i hn
     have Z : b < w.heap.size := (dU.1 z).1
     show (Go.Sort.grow (mapBlock (Go.Sort.ahead w m) g _) os).heap[b]? = _
     rw [CR _ _ _ _ _ _ Z, bB fun h => hn (GG.2 h.symm)]
     exact z
   have h3 := q (sortWorldK (fun x : {x // x ∈ l} => enc x.1) k w g 0 m dk os) (x.1, y.1) c T F
   have ea : ([Value.agg (enc x.1).toArray, Value.agg (enc y.1).toArray] ++ caps.toList).toArray = #[Value.agg (enc x.1).toArray, Value.agg (enc y.1).toArray] ++ caps := by
    apply Array.ext'; simp
   rw [← ea]
   exact dZ h3 fun u W' hu => ⟨by rw [hu.1]; show _ = Ending.returned (.int .i64 ((cf (x.1, y.1)).getD 0)); rw [F]; rfl, MD hu.2⟩
  have hT : ∀ x y : {x // x ∈ l}, ltOf (fun (x y : {x // x ∈ l}) => (cf (x.1, y.1)).getD 0) x y = false → ltOf (fun (x y : {x // x ∈ l}) => (cf (x.1, y.1)).getD 0) y x = false → x = y := fun x y a b => by
   rw [M] at a b
   exact Subtype.ext (ok.total _ x.2 _ y.2 a b)
  have d := AnyQ.slices_SortFunc_total L k aE zE (fun x : {x // x ∈ l} => enc x.1) (fun x => hk x.1) (fun x => h1 x.1) (fun x y => (cf (x.1, y.1)).getD 0) hO gg caps g 0 cap l.attach.toArray w J G Y a7 (by rw [D]; exact ok.short) hT
  rw [D] at d
  refine dZ d fun u w' ⟨hu, n, os, hw⟩ => ?_
  subst hu
  generalize W : l.attach.toArray.toList.mergeSort (fun x y => !ltOf (fun (x y : {x // x ∈ l}) => (cf (x.1, y.1)).getD 0) y x) = s at hw
  have aa : s.map Subtype.val = uK cf l := by
   rw [← W, jM (s := fun x y => !vt cf y x) (fun a _ b _ => by rw [M])]
   simp [uK]
  have Q : s.length = l.length := by rw [← W, List.length_mergeSort]; simp
  have O : (uK cf l).length = l.length := by simp [uK, List.length_mergeSort]
  have E := KZ (w := w) (m := n) (f := putCells id 0 (flatK (fun x : {x // x ∈ l} => enc x.1) k s.toArray)) (os := os) hg
  have ad : w' = Go.Sort.grow (mapBlock (Go.Sort.ahead w n) g (putCells id 0 (flatK (fun x : {x // x ∈ l} => enc x.1) k s.toArray))) os := hw
  rw [← ad] at E
  refine ⟨_, _, rfl, E, _, rfl, (bG _).symm, .inr ⟨g, cap, _, by rw [O], rfl, by omega, a1, by rw [Jr, I], ?_⟩⟩
  rw [O, ← Q, Ll (fun x => hk x.1) s (by rw [Q, I]; exact cI k a6), ← aa, fJ]
  rfl
end
end Go.Proofs.YtklbhegeiijbjaaGreat
namespace Go.Proofs.YtklbhegeiijbjaaGreat
open Go.Sort Go.Proofs Go.Shelf
theorem E2 (b : ByteArray) : b.toList = b.data.toList := by rw [gN]
theorem Rt (l : List ByteArray) : (l.map uv).flatten = l.map Value.string := by
 induction l with
 | nil => rfl
 | cons x l ih => simp only [bP, bR, ih]; rfl
theorem OU (l : List ByteArray) : (vZ l).map (fun b => b.data.toList) = (l.map (fun b => b.data.toList)).mergeSort (fun x y => decide (x ≤ y)) := by
 unfold vZ
 refine jM fun a _ b _ => ?_
 unfold rq
 rw [bytesLess_eq, E2, E2]
 by_cases h : a.data.toList ≤ b.data.toList
 ·have d : ¬ b.data.toList < a.data.toList := List.not_lt.2 h
  simp [h, d]
 ·have d : b.data.toList < a.data.toList := by
   cases Decidable.em (b.data.toList < a.data.toList) with
   | inl g => exact g
   | inr g => exact absurd (List.not_lt.1 g) h
  simp [h, d]
end Go.Proofs.YtklbhegeiijbjaaGreat
namespace Go.Proofs.YtklbhegeiijbjaaGreat
open Go.WideElems Go.WideShapes Go.Sort Go.Proofs Go.Shelf
theorem Le {β : Type} {vf : β → Value} {P : Program} {kt : TypeId} (A : P.underlying kt = some .string) {l : List (ByteArray × β)} {es : Array MapEntry} {clock : Nat} (h : vP Value.string vf l es clock) (y : (l.map (·.1)).Nodup) (z : ∀ p ∈ l, p.1.size ≤ maxLen) (w : l.length ≤ maxLen) {W : World} {b : Nat} (u : W.heap[b]? = some (.map es clock)) : ∃ D : DataW Unit, W.ownsMap P kt (fun _ => some (.lit (.bool true), [])) b es.size D ∧ (strKeys D).Perm (l.map (fun p => p.1.data.toList)) ∧ Maps.size D = l.length := by
 have d := h.keys
 have n : ∀ x ∈ es.toList, ∃ s : ByteArray, x.key = .string s ∧ s.size ≤ maxLen := fun x j => by
  have h1 : x.key ∈ es.toList.map (·.key) := bN.2 ⟨x, j, rfl⟩
  rw [d] at h1
  obtain ⟨s, i, k⟩ := bN.1 h1
  obtain ⟨p, r, t⟩ := bN.1 i
  exact ⟨s, k.symm, by rw [← t]; exact z p r⟩
 have g : ∀ x ∈ es.toList, ∃ s : ByteArray, x.key = .string s ∧ Go.WideElems.rd (H := Unit) P kt (fun _ => some (.lit (.bool true), [])) x = some (.string s.data.toList, .lit (.bool true)) := fun x j => by
  obtain ⟨s, h1, i⟩ := n x j
  refine ⟨s, h1, ?_⟩
  simp [Go.WideElems.rd, keyOf, A, mapKey, h1, i]
 refine ⟨_, ⟨es, clock, u, ⟨by rw [h.length]; exact w, ⟨h.lt, ?_, ?_⟩, fun x j => ?_⟩, aZ _, rfl⟩, ?_, ?_⟩
 ·have := h.born
  rw [List.Nodup, iz]
  exact this.imp (fun {a b} h => by omega)
 ·rw [d]
  rw [List.Nodup, iz]
  exact y.imp (fun {a b} m e => m (by injection e))
 ·obtain ⟨s, _, i⟩ := g x j
  exact ⟨_, i⟩
 ·have h1 := (sorted_perm (es.toList.map (Go.WideElems.rg (H := Unit) P kt (fun _ => some (.lit (.bool true), []))))).map (fun p => strOf p.1)
  refine List.Perm.trans h1 ?_
  have e : (es.toList.map (Go.WideElems.rg (H := Unit) P kt (fun _ => some (.lit (.bool true), [])))).map (fun p => strOf p.1) = l.map (fun p => p.1.data.toList) := by
   have q : (es.toList.map (Go.WideElems.rg (H := Unit) P kt (fun _ => some (.lit (.bool true), [])))).map (fun p => strOf p.1) = (es.toList.map (·.key)).map (fun v => match v with | .string s => s.data.toList | _ => []) := by
    rw [fJ, fJ]
    refine List.map_congr_left fun x j => ?_
    obtain ⟨s, i, k⟩ := g x j
    simp [Go.WideElems.rg, k, i, strOf]
   rw [q, d, fJ, fJ]
   rfl
  rw [e]
 ·have h1 := (sorted_perm (es.toList.map (Go.WideElems.rg (H := Unit) P kt (fun _ => some (.lit (.bool true), []))))).length_eq
  show (List.foldr DataW.insert [] _).length = _
  rw [h1, dD, ← h.length]
  simp
theorem Ji {l : List ByteArray} {g : List (List UInt8)} (h : g.Perm (l.map fun b => b.data.toList)) : g.mergeSort (fun x y => decide (x ≤ y)) = (vZ l).map (fun b => b.data.toList) := by
 rw [OU]
 have le : ∀ a b c : List UInt8, decide (a ≤ b) = true → decide (b ≤ c) = true → decide (a ≤ c) = true := fun a b c h1 d => by
  simp only [bO] at *
  exact List.le_trans h1 d
 have tot : ∀ a b : List UInt8, (decide (a ≤ b) || decide (b ≤ a)) = true := fun a b => by
  simp only [gW, bO]
  exact List.le_total a b
 refine List.Perm.eq_of_pairwise (le := fun a b => decide (a ≤ b) = true) (fun a b _ _ h1 d => List.le_antisymm (by simpa using h1) (by simpa using d)) (jc le tot _) (jc le tot _) ?_
 exact (jG _ _).trans (h.trans (jG _ _).symm)
section
variable {P : Program} {ρk ρt ρm : Ren}
theorem KY (LK : SlLaysZ.n7 P ρk) (LT : SlLaysZ.n6 P ρt) (LM : SlLaysM.n6 P ρm) (h9 : ρt.f 9 = ρm.f 6) (hK : P.underlying (ρk.t 26) = some .string) (eg : ∀ args w, (callFunc (ρk.f 10) args).run P w = .ok (.enter (ρk.f 10) args) w) (es : ∀ args w, (callFunc (ρt.f 9) args).run P w = .ok (.enter (ρt.f 9) args) w) {β : Type} {vf : β → Value} {l : List (ByteArray × β)} {b : Nat} {mv : Value} {t : TypeId} {W : World} {r : List ByteArray} (z : W.heap[b]? = some (.cells #[mv] t (0, 0))) (hm : xt Value.string vf (hp W) mv l) (hk : G2 l = some r) :
  nA false P (ρt.f 6) [.func (.func (ρk.f 10)) #[] #[.pointer (some ⟨b, 0, none⟩)]] W (ρt.t 26) uv 1 r := by
 unfold G2 at hk
 split at hk
 case isFalse => cases hk
 rename_i hc
 obtain ⟨T, U, Y⟩ := hc
 cases hk
 have j : b < W.heap.size := (dU.1 z).1
 have d : W.cell? ⟨b, 0, none⟩ = some mv := by simp [World.cell?, z]
 have s : AnyZ.SortsIn P ρt Fence.wide 4 :=
  ⟨fun M off cap i W hH hblk u => callsIn_wide.2 (by rw [h9]; exact AnyM.slices_Sort_string LM M off cap i W hH hblk u), fun p cap W => callsIn_wide.2 (by rw [h9]; exact AnyM.slices_Sort_string_none LM p cap W)⟩
 have I : SeqGives Fence.wide 2 P (ρk.f 10) #[.pointer (some ⟨b, 0, none⟩)] encStr (fun i => i.Perm ((l.map (·.1)).map fun b => b.data.toList)) l.length W := by
  rcases hm with ⟨rfl, rfl⟩ | ⟨m, es, clock, rfl, a6, E⟩
  ·have := AnyZ.keys_gives_nil (ρ := ρk) { LK with } Fence.wide 2 trivial rfl b W j d
   intro l' J W' Q O R L
   refine CallsIn.mono (this l' J W' Q O R L) ?_
   rintro e w' ⟨hv, i, rfl, hj⟩
   exact ⟨hv, [], aY _, hj⟩
  ·obtain ⟨D, F, q, u⟩ := Le hK E T U (by unfold maxLen; omega) a6
   have := AnyZ.keys_gives (ρ := ρk) { LK with } Fence.wide 2 trivial rfl (by omega) b m es.size D W j d F
   intro l' J W' Q O R L
   refine CallsIn.mono (this l' J W' Q O (by rw [u]; exact R) L) ?_
   rintro e w' ⟨hv, i, hp, hj⟩
   refine ⟨hv, i, ?_, hj⟩
   rw [fJ]
   exact hp.trans q
 have cS := AnyZ.sorted_in LT Fence.wide 5 trivial trivial trivial trivial rfl (by omega) s es (ρk.f 10) #[.pointer (some ⟨b, 0, none⟩)] trivial eg _ l.length (by unfold maxLen; omega) Y W I
 refine dZ (callsIn_wide.1 cS) ?_
 rintro e w' ⟨v, i, rfl, hS, G, a8, a⟩
 have hs := Ji hS
 have hlen : i.length = (vZ (l.map (·.1))).length := by
  have := bL List.length hs
  simpa using this
 have n : (i.mergeSort (fun x y => decide (x ≤ y))).map encStr = ((vZ (l.map (·.1))).map uv).flatten := by
  rw [hs, Rt, fJ]
  refine List.map_congr_left (fun x _ => ?_)
  simp only [Function.comp, encStr]
 rcases G.2 with ⟨rfl, L⟩ | ⟨g, cap, A, rfl, k, hg, aa, Z, a1, a7⟩
 ·have : vZ (l.map (·.1)) = [] := aU (by omega)
  rw [this]
  exact ⟨_, [], rfl, vj.Jx ⟨a.os, a.tape, a.output, fun h => (by cases h), a.size, fun b z => a.block b z⟩ (fun _ _ h => by cases h) (by simp), lA.nil _ _ _⟩
 ·refine ⟨_, [(g, .cells A (ρt.t 26) (0, 0))], rfl, vj.Jx ⟨a.os, a.tape, a.output, fun h => (by cases h), a.size, fun b z => a.block b z⟩ (fun b o h => by simp at h; obtain ⟨rfl, rfl⟩ := h; exact ⟨hg, k⟩) (by simp), .inr ⟨g, cap, A, by rw [hlen], rfl, by omega, Z, a1, ?_⟩⟩
  rw [← hlen, a7, n]
end
end Go.Proofs.YtklbhegeiijbjaaGreat
namespace Go.Proofs.YtklbhegeiijbjaaGreat
def iL := @Tryz.underlying9
def iW := @Tryz.zeroValue9
def jv := @Tryz.underlying0
def jC := @Tryz.zeroValue0
def jJ := @Tryz.sizeOf9
def jN := @Tryz.underlying261
def jS := @Tryz.isAgg9
def jT := @Tryz.zeroValue261
def kf := @Tryz.underlying4
def kj := @Tryz.sizeOf0
def kq := @Tryz.zeroValue4
def kw := @Tryz.isAgg0
def NL : Go.Shelf.Ren := ⟨fun | 6 => 114 | 15 => 177 | 14 => 176 | 28 => 238 | 29 => 239 | 20 => 230 | 21 => 231 | 22 => 232 | 23 => 233 | 24 => 234 | 25 => 235 | 26 => 236 | 27 => 237 | 46 => 277 | 47 => 278 | 48 => 279 | 49 => 280 | 50 => 281 | 57 => 317 | n => n, fun | 22 => 28 | 24 => 52 | 25 => 177 | 3 => 3 | 39 => 232 | 0 => 0 | 53 => 284 | 55 => 235 | 4 => 4 | 46 => 277 | 45 => 276 | 50 => 281 | 5 => 5 | 9 => 9 | 66 => 310 | 70 => 314 | 76 => 343 | 77 => 200 | n => n, fun | n => n⟩
theorem Ru : Go.Proofs.SlLaysF0.n6 Tryz.prog NL := {
 mixed := by kernel_rfl,
 f6 := ⟨Tryz.f114.name, by decide, Tryz.func114.trans (bL some (by kernel_rfl))⟩,
 f14 := ⟨Tryz.f176.name, by decide, Tryz.func176.trans (bL some (by kernel_rfl))⟩,
 f15 := Tryz.func177.trans (bL some (by kernel_rfl)),
 f20 := ⟨Tryz.f230.name, by decide, Tryz.func230.trans (bL some (by kernel_rfl))⟩,
 f21 := ⟨Tryz.f231.name, by decide, Tryz.func231.trans (bL some (by kernel_rfl))⟩,
 f22 := ⟨Tryz.f232.name, by decide, Tryz.func232.trans (bL some (by kernel_rfl))⟩,
 f23 := ⟨Tryz.f233.name, by decide, Tryz.func233.trans (bL some (by kernel_rfl))⟩,
 f24 := ⟨Tryz.f234.name, by decide, Tryz.func234.trans (bL some (by kernel_rfl))⟩,
 f25 := ⟨Tryz.f235.name, by decide, Tryz.func235.trans (bL some (by kernel_rfl))⟩,
 f26 := ⟨Tryz.f236.name, by decide, Tryz.func236.trans (bL some (by kernel_rfl))⟩,
 f27 := ⟨Tryz.f237.name, by decide, Tryz.func237.trans (bL some (by kernel_rfl))⟩,
 f28 := Tryz.func238.trans (bL some (by kernel_rfl)),
 f29 := Tryz.func239.trans (bL some (by kernel_rfl)),
 f46 := ⟨Tryz.f277.name, by decide, Tryz.func277.trans (bL some (by kernel_rfl))⟩,
 f47 := Tryz.func278.trans (bL some (by kernel_rfl)),
 f48 := Tryz.func279.trans (bL some (by kernel_rfl)),
 f49 := ⟨Tryz.f280.name, by decide, Tryz.func280.trans (bL some (by kernel_rfl))⟩,
 f50 := ⟨Tryz.f281.name, by decide, Tryz.func281.trans (bL some (by kernel_rfl))⟩,
 f57 := ⟨Tryz.f317.name, by decide, Tryz.func317.trans (bL some (by kernel_rfl))⟩,
 t0 := jv,
 a0 := kw,
 z0 := kj,
 v0 := jC,
 t3 := Tryz.underlying3,
 a3 := Tryz.isAgg3,
 z3 := Tryz.sizeOf3,
 v3 := Tryz.zeroValue3,
 t4 := kf,
 a4 := Tryz.isAgg4,
 z4 := Tryz.sizeOf4,
 v4 := kq,
 t5 := Tryz.underlying5,
 a5 := Tryz.isAgg5,
 z5 := Tryz.sizeOf5,
 v5 := Tryz.zeroValue5,
 t9 := iL,
 a9 := jS,
 z9 := jJ,
 v9 := iW,
 t22 := Tryz.underlying28,
 a22 := Tryz.isAgg28,
 z22 := Tryz.sizeOf28,
 v22 := Tryz.zeroValue28,
 t25 := Tryz.underlying177,
 a25 := Tryz.isAgg177,
 z25 := Tryz.sizeOf177,
 v25 := Tryz.zeroValue177,
 t39 := Tryz.underlying232,
 a39 := Tryz.isAgg232,
 z39 := Tryz.sizeOf232,
 v39 := Tryz.zeroValue232,
 t45 := Tryz.underlying276,
 a45 := Tryz.isAgg276,
 z45 := Tryz.sizeOf276,
 v45 := Tryz.zeroValue276,
 t46 := Tryz.underlying277,
 a46 := Tryz.isAgg277,
 z46 := Tryz.sizeOf277,
 v46 := Tryz.zeroValue277,
 t50 := Tryz.underlying281,
 a50 := Tryz.isAgg281,
 z50 := Tryz.sizeOf281,
 v50 := Tryz.zeroValue281,
 t53 := Tryz.underlying284,
 a53 := Tryz.isAgg284,
 z53 := Tryz.sizeOf284,
 v53 := Tryz.zeroValue284,
 t55 := Tryz.underlying235,
 a55 := Tryz.isAgg235,
 z55 := Tryz.sizeOf235,
 v55 := Tryz.zeroValue235,
 t66 := Tryz.underlying310,
 a66 := Tryz.isAgg310,
 z66 := Tryz.sizeOf310,
 v66 := Tryz.zeroValue310,
 t70 := Tryz.underlying314,
 a70 := Tryz.isAgg314,
 z70 := Tryz.sizeOf314,
 v70 := Tryz.zeroValue314,
 t76 := Tryz.underlying343,
 a76 := Tryz.isAgg343,
 z76 := Tryz.sizeOf343,
 v76 := Tryz.zeroValue343,
 t77 := Tryz.underlying200,
 a77 := Tryz.isAgg200,
 z77 := Tryz.sizeOf200,
 v77 := Tryz.zeroValue200}
def RD : Go.Shelf.Ren := ⟨fun | 6 => 310 | 8 => 177 | 9 => 332 | 19 => 238 | 20 => 239 | 21 => 345 | 22 => 346 | 23 => 347 | 24 => 348 | 25 => 349 | 26 => 350 | 27 => 351 | 28 => 352 | 29 => 353 | 36 => 360 | 31 => 278 | 32 => 279 | 37 => 361 | 38 => 362 | 39 => 363 | 41 => 366 | n => n, fun | 27 => 261 | 29 => 9 | 3 => 3 | 32 => 232 | 26 => 261 | 0 => 0 | 44 => 284 | 46 => 235 | 4 => 4 | 36 => 277 | 35 => 276 | 41 => 281 | 5 => 5 | 9 => 9 | 53 => 310 | 57 => 314 | 63 => 343 | 64 => 200 | n => n, fun | n => n⟩
theorem RY : Go.Proofs.SlLaysM.n6 Tryz.prog RD := {
 mixed := by kernel_rfl,
 f6 := ⟨Tryz.f310.name, by decide, Tryz.func310.trans (bL some (by kernel_rfl))⟩,
 f8 := Tryz.func177.trans (bL some (by kernel_rfl)),
 f9 := ⟨Tryz.f332.name, by decide, Tryz.func332.trans (bL some (by kernel_rfl))⟩,
 f19 := Tryz.func238.trans (bL some (by kernel_rfl)),
 f20 := Tryz.func239.trans (bL some (by kernel_rfl)),
 f21 := ⟨Tryz.f345.name, by decide, Tryz.func345.trans (bL some (by kernel_rfl))⟩,
 f22 := ⟨Tryz.f346.name, by decide, Tryz.func346.trans (bL some (by kernel_rfl))⟩,
 f23 := ⟨Tryz.f347.name, by decide, Tryz.func347.trans (bL some (by kernel_rfl))⟩,
 f24 := ⟨Tryz.f348.name, by decide, Tryz.func348.trans (bL some (by kernel_rfl))⟩,
 f25 := ⟨Tryz.f349.name, by decide, Tryz.func349.trans (bL some (by kernel_rfl))⟩,
 f26 := ⟨Tryz.f350.name, by decide, Tryz.func350.trans (bL some (by kernel_rfl))⟩,
 f27 := ⟨Tryz.f351.name, by decide, Tryz.func351.trans (bL some (by kernel_rfl))⟩,
 f28 := ⟨Tryz.f352.name, by decide, Tryz.func352.trans (bL some (by kernel_rfl))⟩,
 f29 := ⟨Tryz.f353.name, by decide, Tryz.func353.trans (bL some (by kernel_rfl))⟩,
 f31 := Tryz.func278.trans (bL some (by kernel_rfl)),
 f32 := Tryz.func279.trans (bL some (by kernel_rfl)),
 f36 := ⟨Tryz.f360.name, by decide, Tryz.func360.trans (bL some (by kernel_rfl))⟩,
 f37 := ⟨Tryz.f361.name, by decide, Tryz.func361.trans (bL some (by kernel_rfl))⟩,
 f38 := ⟨Tryz.f362.name, by decide, Tryz.func362.trans (bL some (by kernel_rfl))⟩,
 f39 := ⟨Tryz.f363.name, by decide, Tryz.func363.trans (bL some (by kernel_rfl))⟩,
 f41 := ⟨Tryz.f366.name, by decide, Tryz.func366.trans (bL some (by kernel_rfl))⟩,
 t0 := jv,
 a0 := kw,
 z0 := kj,
 v0 := jC,
 t3 := Tryz.underlying3,
 a3 := Tryz.isAgg3,
 z3 := Tryz.sizeOf3,
 v3 := Tryz.zeroValue3,
 t4 := kf,
 a4 := Tryz.isAgg4,
 z4 := Tryz.sizeOf4,
 v4 := kq,
 t5 := Tryz.underlying5,
 a5 := Tryz.isAgg5,
 z5 := Tryz.sizeOf5,
 v5 := Tryz.zeroValue5,
 t9 := iL,
 a9 := jS,
 z9 := jJ,
 v9 := iW,
 t26 := jN,
 a26 := Tryz.isAgg261,
 z26 := Tryz.sizeOf261,
 v26 := jT,
 t27 := jN,
 a27 := Tryz.isAgg261,
 z27 := Tryz.sizeOf261,
 v27 := jT,
 t29 := iL,
 a29 := jS,
 z29 := jJ,
 v29 := iW,
 t32 := Tryz.underlying232,
 a32 := Tryz.isAgg232,
 z32 := Tryz.sizeOf232,
 v32 := Tryz.zeroValue232,
 t35 := Tryz.underlying276,
 a35 := Tryz.isAgg276,
 z35 := Tryz.sizeOf276,
 v35 := Tryz.zeroValue276,
 t36 := Tryz.underlying277,
 a36 := Tryz.isAgg277,
 z36 := Tryz.sizeOf277,
 v36 := Tryz.zeroValue277,
 t41 := Tryz.underlying281,
 a41 := Tryz.isAgg281,
 z41 := Tryz.sizeOf281,
 v41 := Tryz.zeroValue281,
 t44 := Tryz.underlying284,
 a44 := Tryz.isAgg284,
 z44 := Tryz.sizeOf284,
 v44 := Tryz.zeroValue284,
 t46 := Tryz.underlying235,
 a46 := Tryz.isAgg235,
 z46 := Tryz.sizeOf235,
 v46 := Tryz.zeroValue235,
 t53 := Tryz.underlying310,
 a53 := Tryz.isAgg310,
 z53 := Tryz.sizeOf310,
 v53 := Tryz.zeroValue310,
 t57 := Tryz.underlying314,
 a57 := Tryz.isAgg314,
 z57 := Tryz.sizeOf314,
 v57 := Tryz.zeroValue314,
 t63 := Tryz.underlying343,
 a63 := Tryz.isAgg343,
 z63 := Tryz.sizeOf343,
 v63 := Tryz.zeroValue343,
 t64 := Tryz.underlying200,
 a64 := Tryz.isAgg200,
 z64 := Tryz.sizeOf200,
 v64 := Tryz.zeroValue200}
def Qt : Go.Shelf.Ren := ⟨fun | 7 => 283 | 10 => 319 | n => n, fun | 23 => 190 | 26 => 9 | 3 => 4 | 28 => 318 | 0 => 0 | 27 => 317 | 33 => 128 | 4 => 4 | n => n, fun | n => n⟩
theorem Q9 : Go.Proofs.SlLaysZ.n7 Tryz.prog Qt := {
 mixed := by kernel_rfl,
 f7 := ⟨Tryz.f283.name, by decide, Tryz.func283.trans (bL some (by kernel_rfl))⟩,
 f10 := ⟨Tryz.f319.name, by decide, Tryz.func319.trans (bL some (by kernel_rfl))⟩,
 t0 := jv,
 a0 := kw,
 z0 := kj,
 v0 := jC,
 t4 := kf,
 a4 := Tryz.isAgg4,
 z4 := Tryz.sizeOf4,
 v4 := kq,
 t23 := Tryz.underlying190,
 a23 := Tryz.isAgg190,
 z23 := Tryz.sizeOf190,
 v23 := Tryz.zeroValue190,
 t26 := iL,
 a26 := jS,
 z26 := jJ,
 v26 := iW,
 t27 := Tryz.underlying317,
 a27 := Tryz.isAgg317,
 z27 := Tryz.sizeOf317,
 v27 := Tryz.zeroValue317,
 t28 := Tryz.underlying318,
 a28 := Tryz.isAgg318,
 z28 := Tryz.sizeOf318,
 v28 := Tryz.zeroValue318,
 t33 := Tryz.underlying128,
 a33 := Tryz.isAgg128,
 z33 := Tryz.sizeOf128,
 v33 := Tryz.zeroValue128}
def QK : Go.Shelf.Ren := ⟨fun | 6 => 282 | 8 => 318 | 9 => 310 | 11 => 337 | 13 => 177 | 12 => 332 | 23 => 238 | 24 => 239 | 14 => 345 | 15 => 346 | 16 => 347 | 17 => 348 | 18 => 349 | 19 => 350 | 20 => 351 | 21 => 352 | 22 => 353 | 25 => 360 | 26 => 278 | 27 => 279 | 28 => 361 | 29 => 362 | 30 => 363 | 31 => 366 | n => n, fun | 26 => 9 | 28 => 318 | 24 => 261 | 0 => 0 | 3 => 3 | 37 => 232 | 48 => 284 | 50 => 235 | 4 => 4 | 40 => 277 | 39 => 276 | 45 => 281 | 5 => 5 | 9 => 9 | 51 => 310 | 55 => 314 | 57 => 343 | 58 => 200 | 33 => 128 | n => n, fun | n => n⟩
theorem Q6 : Go.Proofs.SlLaysZ.n6 Tryz.prog QK := {
 mixed := by kernel_rfl,
 f6 := ⟨Tryz.f282.name, by decide, Tryz.func282.trans (bL some (by kernel_rfl))⟩,
 f8 := ⟨Tryz.f318.name, by decide, Tryz.func318.trans (bL some (by kernel_rfl))⟩,
 f11 := ⟨Tryz.f337.name, by decide, Tryz.func337.trans (bL some (by kernel_rfl))⟩,
 t0 := jv,
 a0 := kw,
 z0 := kj,
 v0 := jC,
 t24 := jN,
 a24 := Tryz.isAgg261,
 z24 := Tryz.sizeOf261,
 v24 := jT,
 t26 := iL,
 a26 := jS,
 z26 := jJ,
 v26 := iW,
 t28 := Tryz.underlying318,
 a28 := Tryz.isAgg318,
 z28 := Tryz.sizeOf318,
 v28 := Tryz.zeroValue318,
 i26 := by kernel_rfl}
end Go.Proofs.YtklbhegeiijbjaaGreat
namespace Go.Proofs.YtklbhegeiijbjaaGreat
open Go.RowKit
set_option maxRecDepth 10000
noncomputable section
structure kD where
 kE : ByteArray
 kL : ByteArray
def kR (x : kD) : List Value := [.string x.kE, .string x.kL]
def lx (x y : kD) : Bool := (mx x.kE y.kE) && ((mx x.kL y.kL) && true)
theorem lz {x y : kD} : lx x y = true ↔ x = y := by
 cases x; cases y; simp [lx, np]
theorem yg (x : kD) : (kR x).length = 2 := rfl
theorem xd (x : kD) : ∀ u ∈ kR x, u.oneCell' = true := by
 intro u hu
 simp only [kR, aQ, dM, gV] at hu
 rcases hu with rfl | rfl <;> rfl
structure kF where
 Kind : Int
 Head : kD
 ma : ByteArray
 B : kD
 C : kD
 mc : ByteArray
def kK (x : kF) : List Value := [.int .i64 x.Kind, .string x.Head.kE, .string x.Head.kL, .string x.ma, .string x.B.kE, .string x.B.kL, .string x.C.kE, .string x.C.kL, .string x.mc]
def ng (x y : kF) : Bool := (x.Kind == y.Kind) && ((lx x.Head y.Head) && ((mx x.ma y.ma) && ((lx x.B y.B) && ((lx x.C y.C) && ((mx x.mc y.mc) && true)))))
theorem om {x y : kF} : ng x y = true ↔ x = y := by
 cases x; cases y; simp [ng, np, lz]
theorem mG (x : kF) : (kK x).length = 9 := rfl
theorem oQ (x : kF) : ∀ u ∈ kK x, u.oneCell' = true := by
 intro u hu
 simp only [kK, aQ, dM, gV] at hu
 rcases hu with rfl | rfl | rfl | rfl | rfl | rfl | rfl | rfl | rfl <;> rfl
structure lf where
 kD : kD
 ma : ByteArray
def lV (x : lf) : List Value := [.string x.kD.kE, .string x.kD.kL, .string x.ma]
def BG (x y : lf) : Bool := (lx x.kD y.kD) && ((mx x.ma y.ma) && true)
theorem wX {x y : lf} : BG x y = true ↔ x = y := by
 cases x; cases y; simp [BG, np, lz]
theorem qY (x : lf) : (lV x).length = 3 := rfl
theorem Ak (x : lf) : ∀ u ∈ lV x, u.oneCell' = true := by
 intro u hu
 simp only [lV, aQ, dM, gV] at hu
 rcases hu with rfl | rfl | rfl <;> rfl
structure mj where
 pD : Int
 pE : Int
def mE (x : mj) : List Value := [.int .i64 x.pD, .int .i64 x.pE]
def xU (x y : mj) : Bool := (x.pD == y.pD) && ((x.pE == y.pE) && true)
theorem DC {x y : mj} : xU x y = true ↔ x = y := by
 cases x; cases y; simp [xU, np]
theorem si (x : mj) : (mE x).length = 2 := rfl
theorem Bw (x : mj) : ∀ u ∈ mE x, u.oneCell' = true := by
 intro u hu
 simp only [mE, aQ, dM, gV] at hu
 rcases hu with rfl | rfl <;> rfl
structure mh where
 e : Int
def mT (x : mh) : List Value := [.int .i64 x.e]
structure mA where
 PC : Bool
def nE (x : mA) : List Value := [.bool x.PC]
structure Key where
 ma : ByteArray
 Key : List Int
structure Signed where
 kF : kF
 Tag : List Int
structure Formula where
 Op : Int
 K : Int
 kD : kD
 Kids : List Formula
structure lm where
 Signed : Signed
 kJ : Formula
structure nY where
 kD : kD
 kJ : Formula
 nf : List kF
structure lW where
 Name : ByteArray
 kQ : List lm
 li : List nY
structure mI where
 kE : lW
 Client : lW
 Formula : Formula
 oN : Int
 mw : mj
 mW : Int
 nU : Int
 ny : Int
 Keys : List Key
def pB (a0 : ByteArray) (a : Int) : Option Int :=
 some (ym a0 a)
def sO (a0 : ByteArray) (a : Int) : Option Int :=
 ((pB a0 a).bind fun b => some b)
def vY  : List Int → Option Bool
 | [] => some true
 | d :: a => ((sO (⟨#[97, 98, 99, 100, 101, 102, 103, 104, 105, 106, 107, 108, 109, 110, 111, 112, 113, 114, 115, 116, 117, 118, 119, 120, 121, 122, 48, 49, 50, 51, 52, 53, 54, 55, 56, 57, 45]⟩ : ByteArray) d).bind fun b => (if (decide (b < 0)) then some false else (vY a)))
def CN (a0 : ByteArray) : Option Bool :=
 ((DF a0).bind fun a => vY a)
def tK (a0 : ByteArray) : Option Bool :=
 (((if (decide ((a0.size : Int) ≥ 1)) then some (decide ((a0.size : Int) ≤ 16)) else some false) : Option Bool).bind fun x2 => (((if x2 then ((Bo a0 0).bind fun a => ((sO (⟨#[97, 98, 99, 100, 101, 102, 103, 104, 105, 106, 107, 108, 109, 110, 111, 112, 113, 114, 115, 116, 117, 118, 119, 120, 121, 122]⟩ : ByteArray) (a.toNat : Int)).bind fun d => some (decide (d ≥ 0)))) else some false) : Option Bool).bind fun g => (((if g then ((CN a0).bind fun b => some b) else some false) : Option Bool).bind fun h => some h)))
def vq (a0 : List Int) : Option (List Int) :=
 ((nG 1 ([]) a0).bind fun a => some a)
def rj (a0 : kD) : Option Bool :=
 ((tK a0.kE).bind fun d => (((if d then ((tK a0.kL).bind fun a => some a) else some false) : Option Bool).bind fun b => some b))
def oL (a0 a : ByteArray) : Option Int :=
 some (qk a0 a)
def qG (a0 a : ByteArray) : Option Int :=
 ((oL a0 a).bind fun b => some b)
def tO  : List Int → Option Int
 | [] => some 0
 | a :: b => (if (a != 0) then some a else (tO b))
def vQ (a0 : List Int) : Option Int :=
 tO a0
def tb (a0 g : kD) : Option Int :=
 ((qG a0.kE g.kE).bind fun a => ((qG a0.kL g.kL).bind fun b => ((vQ ([a, b])).bind fun d => some d)))
def uT (a0 : kF) : Option Bool :=
 ((rj a0.Head).bind fun y => (((if (a0.Kind == 1) then (((if y then ((tK a0.ma).bind fun b => some b) else some false) : Option Bool).bind fun p => some (Sum.inr (p, (⟨a0.Kind, a0.Head, a0.ma, (⟨zS, zS⟩ : kD), (⟨zS, zS⟩ : kD), zS⟩ : kF)))) else (if (a0.Kind == 2) then (((if y then ((rj a0.B).bind fun d => some d) else some false) : Option Bool).bind fun q => some (Sum.inr (q, (⟨a0.Kind, a0.Head, zS, a0.B, (⟨zS, zS⟩ : kD), zS⟩ : kF)))) else (if (a0.Kind == 3) then (((if y then ((rj a0.B).bind fun h => some h) else some false) : Option Bool).bind fun r => (((if r then some (mx a0.B.kE a0.Head.kE) else some false) : Option Bool).bind fun t => (((if t then ((tK a0.mc).bind fun g => some g) else some false) : Option Bool).bind fun u => some (Sum.inr (u, (⟨a0.Kind, a0.Head, zS, a0.B, (⟨zS, zS⟩ : kD), a0.mc⟩ : kF)))))) else (if (a0.Kind == 4) then (((if y then ((rj a0.B).bind fun k => some k) else some false) : Option Bool).bind fun v => (((if v then ((rj a0.C).bind fun j => some j) else some false) : Option Bool).bind fun w => (((if w then ((tb a0.B a0.C).bind fun i => some (decide (i < 0))) else some false) : Option Bool).bind fun x => some (Sum.inr (x, (⟨a0.Kind, a0.Head, zS, a0.B, a0.C, zS⟩ : kF)))))) else some (Sum.inl false))))) : Option (Bool ⊕ (Bool × kF))).bind fun s => match s with | .inl a => some a | .inr (l, m) => (((if l then some (ng m a0) else some false) : Option Bool).bind fun n => some n)))
def rf  : Nat → Int → (List Int) → Option (Bool × (List Int))
 | 0, _, _ => none
 | h + 1, a, d => (if (decide (a ≥ 128)) then ((nG 1 d ([(IntKind.u8.wrap (BitVec.ofInt (IntKind.bits .u8) (IntKind.u8.wrap a) ||| BitVec.ofInt (IntKind.bits .u8) 128).toNat)])).bind fun g => (rf h (Int.fdiv a (2 ^ min (Int.toNat 7) (IntKind.bits .i64))) g)) else ((nG 1 d ([(IntKind.u8.wrap a)])).bind fun b => some (true, b)))
def pf (a : List Int) (b : Int) : Option (Bool × (List Int)) :=
 (if (decide (b < 0)) then some (false, a) else rf lF b a)
def yz (a b : List Int) : Option (Bool × (List Int)) :=
 (if (decide ((b.length : Int) > 2048)) then some (false, a) else ((pf a (b.length : Int)).bind fun g => ((nG 1 g.2 b).bind fun d => some (true, d))))
def uS (a : List Int) (i : ByteArray) : Option (Bool × (List Int)) :=
 ((tK i).bind fun j => (((if j then ((DF i).bind fun g => ((yz a g).bind fun b => some (b.1, b.2))) else some (false, a)) : Option (Bool × (List Int))).bind fun (h, d) => some (h, d)))
def ri (a : List Int) (h : kD) : Option (Bool × (List Int)) :=
 ((rj h).bind fun l => (((if l then ((uS a h.kE).bind fun g => some (g.1, g.2)) else some (false, a)) : Option (Bool × (List Int))).bind fun (j, b) => (((if j then ((uS b h.kL).bind fun d => some (d.1, d.2)) else some (false, b)) : Option (Bool × (List Int))).bind fun (k, i) => some (k, i))))
def uR (a : List Int) : Option (List Int) :=
 ((vq a).bind fun b => some b)
def xJ (a0 : kF) : Option (List Int) :=
 ((uT a0).bind fun m => (if (!m) then some [] else ((pf ([]) a0.Kind).bind fun n => ((ri n.2 a0.Head).bind fun a => (((if (a0.Kind == 1) then ((uS a.2 a0.ma).bind fun g => some g.2) else (if (a0.Kind == 2) then ((ri a.2 a0.B).bind fun h => some h.2) else (if (a0.Kind == 3) then ((ri a.2 a0.B).bind fun i => ((uS i.2 a0.mc).bind fun j => some j.2)) else (if (a0.Kind == 4) then ((ri a.2 a0.B).bind fun k => ((ri k.2 a0.C).bind fun l => some l.2)) else some a.2)))) : Option (List Int)).bind fun b => ((uR b).bind fun d => some d))))))
def sN (a0 : List kF) : Option (List kF) :=
 ((nG 136 ([]) a0).bind fun a => some a)
def pH (f1 : kF → Option Bool) : List kF → Nat → Option Int
 | [], _ => some (-1)
 | d :: a, i35 => ((f1 d).bind fun b => (if b then some (i35 : Int) else (pH f1 a (i35 + 1))))
def vi (a0 : List kF) (f1 : kF → Option Bool) : Option Int :=
 pH f1 a0 0
def oM (f1 : kF → Option Bool) : Nat → (List kF) → Int → Int → Option (List kF)
 | 0, _, _, _ => none
 | n321 + 1, b, a, d => (if (decide (d < (b.length : Int))) then ((((mP b d).bind fun g => ((f1 g).bind fun i => (if (!i) then ((mP b a).bind fun k => some ((b.set (Int.toNat a) g), (IntKind.i64.wrap (a + 1)))) else some (b, a)))) : Option ((List kF) × Int)).bind fun (h, j) => (oM f1 n321 h j (IntKind.i64.wrap (d + 1)))) else ((rh (decide (0 ≤ a) && decide (a ≤ (b.length : Int)))).bind fun _ => ((rh (decide (0 ≤ a) && decide (a ≤ ((pk b (Int.toNat a) (⟨0, (⟨zS, zS⟩ : kD), zS, (⟨zS, zS⟩ : kD), (⟨zS, zS⟩ : kD), zS⟩ : kF)).length : Int)))).bind fun _ => some ((pk b (Int.toNat a) (⟨0, (⟨zS, zS⟩ : kD), zS, (⟨zS, zS⟩ : kD), (⟨zS, zS⟩ : kD), zS⟩ : kF)).take (Int.toNat a)))))
def sb (a0 : List kF) (f1 : kF → Option Bool) : Option (List kF) :=
 ((vi a0 f1).bind fun a => (if (a == (-1)) then some a0 else oM f1 lF a0 a (IntKind.i64.wrap (a + 1))))
def yS (a0 : kF) : Option Bool :=
 ((uT a0).bind fun a => some (!a))
def xw (a0 a : List Int) : Option Int :=
 some (zj a0 a)
def uI (a0 g : kF) : Option Int :=
 ((xJ a0).bind fun a => ((xJ g).bind fun b => ((xw a b).bind fun d => some d)))
def pn (b : Int) : Nat → (List kF) → Int → Int → Option ((List kF) × Int)
 | 0, _, _, _ => none
 | i + 1, a, d, g => (if (decide (g < ((a.length - (Int.toNat b) : Nat) : Int))) then ((((mP (a.drop (Int.toNat b)) g).bind fun k => ((mP (a.drop (Int.toNat b)) (IntKind.i64.wrap (g - 1))).bind fun l => (if (!(ng k l)) then ((mP (a.drop (Int.toNat b)) g).bind fun m => ((mP a d).bind fun n => some ((a.set (Int.toNat d) m), (IntKind.i64.wrap (d + 1))))) else some (a, d)))) : Option ((List kF) × Int)).bind fun (h, j) => (pn b i h j (IntKind.i64.wrap (g + 1)))) else some (a, d))
def pq (a0 : List kF) : Nat → Int → Option (List kF)
 | 0, _ => none
 | g + 1, a => (if (decide (a < (a0.length : Int))) then ((mP a0 a).bind fun h => ((mP a0 (IntKind.i64.wrap (a - 1))).bind fun i => (if (ng h i) then ((rh (decide (0 ≤ a) && decide (a ≤ (a0.length : Int)))).bind fun _ => ((pn a lF a0 a 1 : Option ((List kF) × Int)).bind fun (d, b) => ((rh (decide (0 ≤ b) && decide (b ≤ (d.length : Int)))).bind fun _ => ((rh (decide (0 ≤ b) && decide (b ≤ ((pk d (Int.toNat b) (⟨0, (⟨zS, zS⟩ : kD), zS, (⟨zS, zS⟩ : kD), (⟨zS, zS⟩ : kD), zS⟩ : kF)).length : Int)))).bind fun _ => some ((pk d (Int.toNat b) (⟨0, (⟨zS, zS⟩ : kD), zS, (⟨zS, zS⟩ : kD), (⟨zS, zS⟩ : kD), zS⟩ : kF)).take (Int.toNat b)))))) else (pq a0 g (IntKind.i64.wrap (a + 1)))))) else some a0)
def tR (a0 : List kF) : Option (List kF) :=
 (if (decide ((a0.length : Int) < 2)) then some a0 else pq a0 lF 1)
def zM (a0 : List kF) : Option (List kF) :=
 ((sN a0).bind fun g => ((sb g (fun (x : kF) => yS x)).bind fun a => ((AL (fun (x : (kF × kF)) => uI x.1 x.2) a).bind fun b => ((tR b).bind fun d => some d))))
def rc (d : kF) : List kF → Nat → Option Int
 | [], _ => some (-1)
 | b :: a, i46 => (if (ng d b) then some (i46 : Int) else (rc d a (i46 + 1)))
def xi (a0 : List kF) (a : kF) : Option Int :=
 rc a a0 0
def tw (a0 : List kF) (a : kF) : Option Bool :=
 ((xi a0 a).bind fun b => some (decide (b ≥ 0)))
def wG (a0 : List kF) (a : kF) : Option Bool :=
 ((tw a0 a).bind fun b => some b)
def zI (a0 : kF) : Option (List kD) :=
 ((uT a0).bind fun h => (if (!h) then some [] else (((if (a0.Kind != 1) then ((nG 32 ([a0.Head]) ([a0.B])).bind fun g => some g) else some ([a0.Head])) : Option (List kD)).bind fun a => (((if (a0.Kind == 4) then ((nG 32 a ([a0.C])).bind fun d => some d) else some a) : Option (List kD)).bind fun b => some b))))
def py (i : kF) (a : List (ByteArray × (List kF))) (g : List kF) : List kD → (List (kD × (List kF))) → Option ((List kF) × (List (kD × (List kF))) × (List (ByteArray × (List kF))))
 | [], b => (if (i.Kind == 3) then ((nG 136 ((mJ mx a i.mc).getD []) ([i])).bind fun k => some (g, b, (po mx a i.mc k))) else some (g, b, a))
 | d :: h, b => ((nG 136 ((mJ lx b d).getD []) ([i])).bind fun j => (py i a g h (po lx b d j)))
def uy (i : List (kD × (List (ByteArray × Bool)))) (a : List kF) (d : List (kD × (List kF))) (b : List (ByteArray × (List kF))) (g : List lf) (l : Int) (j : kF) : Option ((List kF) × (List (kD × (List kF))) × (List (ByteArray × (List kF)))) :=
 ((nG 136 a ([j])).bind fun k => ((zI j).bind fun h => ((rh (decide (0 ≤ 1) && decide (1 ≤ (h.length : Int)))).bind fun _ => py j b k (h.drop (Int.toNat 1)) d)))
def oV (a : List (kD × (List (ByteArray × Bool)))) (g : List kF) (i : List (kD × (List kF))) (h : List (ByteArray × (List kF))) (b : List lf) (d : Int) (j : kD) (a2 : ByteArray) : Option ((List (kD × (List (ByteArray × Bool)))) × (List lf) × Int) :=
 (if (AM mx ((mJ lx a j).getD []) a2 false) then some (a, b, d) else (((if (mJ lx a j).isNone then ((GR lx a j ([])).bind fun k => some k) else some a) : Option (List (kD × (List (ByteArray × Bool))))).bind fun l => ((Gw lx mx l j a2 true).bind fun m => ((nG 48 b ([(⟨j, a2⟩ : lf)])).bind fun n => some (m, n, (IntKind.i64.wrap (d + 1)))))))
def pI (a0 : List (ByteArray × Bool)) : Option Unit :=
 some ()
def rK (a : List (kD × (List (ByteArray × Bool)))) (b : List kF) (h : List (kD × (List kF))) (d : List (ByteArray × (List kF))) (g : List lf) (j : Int) (k : kD) : Option (List ByteArray) :=
 ((pI ((mJ lx a k).getD [])).bind fun l => ((G2 ((mJ lx a k).getD [])).bind fun i => some i))
def re (a : List kF) (d : List (kD × (List kF))) (b : List (ByteArray × (List kF))) (a2 : kD) : List ByteArray → (List (kD × (List (ByteArray × Bool)))) → (List lf) → Int → Option ((List (kD × (List (ByteArray × Bool)))) × (List lf) × Int)
 | [], g, h, j => some (g, h, j)
 | l :: k, g, h, j => ((oV g a d b h j a2 l).bind fun i => (re a d b a2 k i.1 i.2.1 i.2.2))
def vd (h : List (kD × (List (ByteArray × Bool)))) (a : List kF) (g : List (kD × (List kF))) (b : List (ByteArray × (List kF))) (d : List lf) (i : Int) (j a2 : kD) : Option ((List (kD × (List (ByteArray × Bool)))) × (List lf) × Int) :=
 ((rK h a g b d i j).bind fun k => re a g b a2 k h d i)
def sJ (a : List (kD × (List (ByteArray × Bool)))) (d : List kF) (h : List (kD × (List kF))) (g : List (ByteArray × (List kF))) (b : List lf) (i : Int) (j : kF) (a2 : lf) : Option ((List (kD × (List (ByteArray × Bool)))) × (List lf) × Int) :=
 (if (j.Kind == 2) then ((oV a d h g b i j.Head a2.ma).bind fun m => some (m.1, m.2.1, m.2.2)) else (if (j.Kind == 3) then ((vd a d h g b i (⟨a2.ma, j.mc⟩ : kD) j.Head).bind fun k => some (k.1, k.2.1, k.2.2)) else (if (j.Kind == 4) then (((if (AM mx ((mJ lx a j.B).getD []) a2.ma false) then some (AM mx ((mJ lx a j.C).getD []) a2.ma false) else some false) : Option Bool).bind fun n => (if n then ((oV a d h g b i j.Head a2.ma).bind fun l => some (l.1, l.2.1, l.2.2)) else some (a, b, i))) else some (a, b, i))))
def qh (a : List kF) (d : List (kD × (List kF))) (b : List (ByteArray × (List kF))) (m : kF) : List ByteArray → (List (kD × (List (ByteArray × Bool)))) → (List lf) → Int → Option ((List (kD × (List (ByteArray × Bool)))) × (List lf) × Int)
 | [], g, h, j => some (g, h, j)
 | l :: k, g, h, j => ((sJ g a d b h j m (⟨m.B, l⟩ : lf)).bind fun i => (qh a d b m k i.1 i.2.1 i.2.2))
def tP (h : List (kD × (List (ByteArray × Bool)))) (a : List kF) (g : List (kD × (List kF))) (b : List (ByteArray × (List kF))) (d : List lf) (i : Int) (j : kF) : Option ((List (kD × (List (ByteArray × Bool)))) × (List lf) × Int) :=
 (if (j.Kind == 1) then ((oV h a g b d i j.Head j.ma).bind fun l => some (l.1, l.2.1, l.2.2)) else ((rK h a g b d i j.B).bind fun k => qh a g b j k h d i))
def pa (i : lf) (a : List kF) (d : List (kD × (List kF))) (b : List (ByteArray × (List kF))) : List kF → (List (kD × (List (ByteArray × Bool)))) → (List lf) → Int → Option ((List (kD × (List (ByteArray × Bool)))) × (List lf) × Int)
 | [], g, h, j => some (g, h, j)
 | m :: l, g, h, j => (if (AM mx ((mJ lx g m.B).getD []) i.kD.kE false) then ((oV g a d b h j m.Head i.ma).bind fun k => (pa i a d b l k.1 k.2.1 k.2.2)) else (pa i a d b l g h j))
def pU (a : List kF) (d : List (kD × (List kF))) (b : List (ByteArray × (List kF))) (k : lf) : List kF → (List (kD × (List (ByteArray × Bool)))) → (List lf) → Int → Option ((List (kD × (List (ByteArray × Bool)))) × (List lf) × Int)
 | [], g, h, j => some (g, h, j)
 | m :: l, g, h, j => ((sJ g a d b h j m k).bind fun i => (pU a d b k l i.1 i.2.1 i.2.2))
def oy (d : List kF) (b : List (kD × (List kF))) (a : List (ByteArray × (List kF))) : Nat → (List (kD × (List (ByteArray × Bool)))) → (List lf) → Int → Option ((List (kD × (List (ByteArray × Bool)))) × (List lf) × Int)
 | 0, _, _, _ => none
 | p + 1, i, g, j => (if (decide ((g.length : Int) > 0)) then ((mP g 0).bind fun h => ((rh (decide (0 ≤ 1) && decide (1 ≤ (g.length : Int)))).bind fun _ => ((pU d b a h ((mJ lx b h.kD).getD []) i (g.drop (Int.toNat 1)) j : Option ((List (kD × (List (ByteArray × Bool)))) × (List lf) × Int)).bind fun (k, l, q) => ((pa h d b a ((mJ mx a h.kD.kL).getD []) k l q : Option ((List (kD × (List (ByteArray × Bool)))) × (List lf) × Int)).bind fun (m, n, r) => (oy d b a p m n r))))) else some (i, g, j))
def vJ (h : List (kD × (List (ByteArray × Bool)))) (a : List kF) (g : List (kD × (List kF))) (b : List (ByteArray × (List kF))) (d : List lf) (i : Int) : Option ((List (kD × (List (ByteArray × Bool)))) × (List lf) × Int) :=
 oy a g b lF h d i
def oX (m : Int) : List kF → (List (kD × (List (ByteArray × Bool)))) → (List kF) → (List (kD × (List kF))) → (List (ByteArray × (List kF))) → (List lf) → Int → Option (Int × (List (kD × (List (ByteArray × Bool)))) × (List kF) × (List (kD × (List kF))) × (List (ByteArray × (List kF))) × (List lf) × Int)
 | [], d, a, g, h, i, j => ((vJ d a g h i j).bind fun k => some ((IntKind.i64.wrap (k.2.2 - m)), k.1, a, g, h, k.2.1, k.2.2))
 | l :: p, d, a, g, h, i, j => ((uT l).bind fun q => (((if q then ((wG a l).bind fun r => some (!r)) else some false) : Option Bool).bind fun s => (if s then ((uy d a g h i j l).bind fun b => ((tP d b.1 b.2.1 b.2.2 i j l).bind fun n => (oX m p n.1 b.1 b.2.1 b.2.2 n.2.1 n.2.2))) else (oX m p d a g h i j))))
def vc (h : List (kD × (List (ByteArray × Bool)))) (a : List kF) (g : List (kD × (List kF))) (b : List (ByteArray × (List kF))) (d : List lf) (i : Int) (j : List kF) : Option (Int × (List (kD × (List (ByteArray × Bool)))) × (List kF) × (List (kD × (List kF))) × (List (ByteArray × (List kF))) × (List lf) × Int) :=
 oX i j h a g b d i
def xV (a0 : List kF) : Option ((List (kD × (List (ByteArray × Bool)))) × (List kF) × (List (kD × (List kF))) × (List (ByteArray × (List kF))) × (List lf) × Int) :=
 ((vc ([]) ([]) ([]) ([]) ([]) 0 a0).bind fun a => some (a.2.1, a.2.2.1, a.2.2.2.1, a.2.2.2.2.1, a.2.2.2.2.2.1, a.2.2.2.2.2.2))
def rk (a0 g : lf) : Option Int :=
 ((tb a0.kD g.kD).bind fun a => ((qG a0.ma g.ma).bind fun b => ((vQ ([a, b])).bind fun d => some d)))
def xh (d : List (kD × (List (ByteArray × Bool)))) (g : List kF) (j : List (kD × (List kF))) (h : List (ByteArray × (List kF))) (i : List lf) (l : Int) : Option (List lf) :=
 ((Oo 48 (fun (a : kD) (b : ByteArray) => (⟨a, b⟩ : lf)) d).bind fun fs => E8 fs (fun k => ((AL (fun (x : (lf × lf)) => rk x.1 x.2) k).bind fun m => some m)))
def uQ (a : List (kD × (List (ByteArray × Bool)))) (b : List kF) (h : List (kD × (List kF))) (d : List (ByteArray × (List kF))) (g : List lf) (i : Int) (j : kD) (a2 : ByteArray) : Option Bool :=
 some (AM mx ((mJ lx a j).getD []) a2 false)
def sQ  : List kF → Int → Option Int
 | [], b => some b
 | a :: d, b => (sQ d (IntKind.i64.wrap (b + (IntKind.i64.wrap ((IntKind.i64.wrap ((IntKind.i64.wrap ((IntKind.i64.wrap ((IntKind.i64.wrap ((IntKind.i64.wrap ((IntKind.i64.wrap ((IntKind.i64.wrap (20 + (a.Head.kE.size : Int))) + (a.Head.kL.size : Int))) + (a.ma.size : Int))) + (a.B.kE.size : Int))) + (a.B.kL.size : Int))) + (a.C.kE.size : Int))) + (a.C.kL.size : Int))) + (a.mc.size : Int))))))
def wK (a0 : List kF) : Option Int :=
 sQ a0 0
def sV  : List Signed → Int → Option Int
 | [], a => some a
 | b :: d, a => ((wK ([b.kF])).bind fun g => (sV d (IntKind.i64.wrap (a + (IntKind.i64.wrap (g + (b.Tag.length : Int)))))))
def rE (h : List Signed) : List Key → Int → Option Int
 | [], a => ((sV h a : Option Int).bind fun b => some b)
 | d :: g, a => (rE h g (IntKind.i64.wrap (a + (IntKind.i64.wrap ((IntKind.i64.wrap (10 + (d.ma.size : Int))) + (d.Key.length : Int))))))
def vo (a0 : List Key) (a : List Signed) : Option Int :=
 rE a a0 0
def rB (a0 : ByteArray) : Nat → Int → Option Bool
 | 0, _ => none
 | d + 1, b => (if (decide (b < (a0.size : Int))) then ((Bo a0 b).bind fun a => (((if (decide ((a.toNat : Int) < 97)) then some true else some (decide ((a.toNat : Int) > 122))) : Option Bool).bind fun g => (((if g then (((if (decide ((a.toNat : Int) < 48)) then some true else some (decide ((a.toNat : Int) > 57))) : Option Bool).bind fun j => some j) else some false) : Option Bool).bind fun h => (((if h then some ((a.toNat : Int) != 45) else some false) : Option Bool).bind fun i => (if i then some false else (rB a0 d (IntKind.i64.wrap (b + 1)))))))) else some true)
def sv (a0 : ByteArray) : Option Bool :=
 (((if (mx a0 zS) then some true else some (decide ((a0.size : Int) > 16))) : Option Bool).bind fun x2 => (((if x2 then some true else ((Bo a0 0).bind fun b => some (decide ((b.toNat : Int) < 97)))) : Option Bool).bind fun d => (((if d then some true else ((Bo a0 0).bind fun a => some (decide ((a.toNat : Int) > 122)))) : Option Bool).bind fun g => (if g then some false else rB a0 lF 0))))
def ub (a0 : kD) : Option Bool :=
 ((sv a0.kE).bind fun d => (((if d then ((sv a0.kL).bind fun a => some a) else some false) : Option Bool).bind fun b => some b))
def xF (a0 a : kD) : Option Bool :=
 (((if (rq a0.kE a.kE) then some true else (((if (mx a0.kE a.kE) then some (rq a0.kL a.kL) else some false) : Option Bool).bind fun d => some d)) : Option Bool).bind fun b => some b)
def wS (a0 : kF) : Option Bool :=
 ((ub a0.Head).bind fun t => (if (!t) then some false else (if (a0.Kind == 1) then ((sv a0.ma).bind fun i => (((if i then some (lx a0.B (⟨zS, zS⟩ : kD)) else some false) : Option Bool).bind fun k => (((if k then some (lx a0.C (⟨zS, zS⟩ : kD)) else some false) : Option Bool).bind fun l => (((if l then some (mx a0.mc zS) else some false) : Option Bool).bind fun m => some m)))) else (((if (!(mx a0.ma zS)) then some true else ((ub a0.B).bind fun d => some (!d))) : Option Bool).bind fun n => (if n then some false else (if (a0.Kind == 2) then (((if (lx a0.C (⟨zS, zS⟩ : kD)) then some (mx a0.mc zS) else some false) : Option Bool).bind fun p => some p) else (if (a0.Kind == 3) then (((if (lx a0.C (⟨zS, zS⟩ : kD)) then some (mx a0.B.kE a0.Head.kE) else some false) : Option Bool).bind fun q => (((if q then ((sv a0.mc).bind fun j => some j) else some false) : Option Bool).bind fun r => some r)) else (((if (a0.Kind == 4) then some (mx a0.mc zS) else some false) : Option Bool).bind fun s => (((if s then ((ub a0.C).bind fun b => some b) else some false) : Option Bool).bind fun g => (((if g then ((xF a0.B a0.C).bind fun a => some a) else some false) : Option Bool).bind fun h => some h))))))))))
def uq  : Nat → Int → ByteArray → Option ByteArray
 | 0, _, _ => none
 | n45 + 1, a, b => (if (decide (a ≥ 128)) then ((xD b (CL ([(IntKind.u8.wrap (IntKind.i64.wrap (128 + (Int.tmod a 128))))]))).bind fun d => (uq n45 (IntKind.i64.wrap (Int.tdiv a 128)) d)) else ((xD b (CL ([(IntKind.u8.wrap a)]))).bind fun g => some g))
def rL (a0 : Int) : Option ByteArray :=
 uq lF a0 zS
def uW (a0 : ByteArray) : Option ByteArray :=
 ((rL (a0.size : Int)).bind fun a => ((xD a a0).bind fun b => some b))
def ud (a0 : kD) : Option ByteArray :=
 ((uW a0.kE).bind fun a => ((uW a0.kL).bind fun b => ((xD a b).bind fun d => some d)))
def Bf (a0 : kF) : Option ByteArray :=
 ((rL a0.Kind).bind fun g => ((ud a0.Head).bind fun h => ((xD g h).bind fun a => (if (a0.Kind == 1) then ((uW a0.ma).bind fun i => ((xD a i).bind fun m => some m)) else ((ud a0.B).bind fun j => ((xD a j).bind fun b => (((if (a0.Kind == 3) then ((uW a0.mc).bind fun l => ((xD b l).bind fun p => some p)) else some b) : Option ByteArray).bind fun d => (((if (a0.Kind == 4) then ((ud a0.C).bind fun k => ((xD d k).bind fun n => some n)) else some d) : Option ByteArray).bind fun q => some q))))))))
def wJ (a0 : kF) : Option ByteArray :=
 ((wS a0).bind fun a => (if (!a) then some zS else ((Bf a0).bind fun b => some b)))
def tT (a0 d : kF) : Option Int :=
 ((wJ a0).bind fun a => ((wJ d).bind fun b => (if (rq a b) then some (-1) else (if (!(rq a b || mx a b)) then some 1 else some 0))))
def sT (a : List kF) : List kF → Bool → kF → Option (Bool × kF)
 | [], d, g => some (d, g)
 | b :: h, d, g => ((wS b).bind fun i => (((if i then (((if ((a.length : Int) == 0) then some true else ((mP a (IntKind.i64.wrap ((a.length : Int) - 1))).bind fun q => ((tT q b).bind fun k => some (decide (k < 0))))) : Option Bool).bind fun p => some p) else some false) : Option Bool).bind fun l => (((if l then (((if (!d) then some true else ((tT b g).bind fun j => some (decide (j < 0)))) : Option Bool).bind fun n => some n) else some false) : Option Bool).bind fun m => (if m then (sT a h true b) else (sT a h d g)))))
def uH (a0 : List kF) : Nat → (List kF) → Option (List kF)
 | 0, _ => none
 | d + 1, a => ((sT a a0 false (⟨0, (⟨zS, zS⟩ : kD), zS, (⟨zS, zS⟩ : kD), (⟨zS, zS⟩ : kD), zS⟩ : kF) : Option (Bool × kF)).bind fun (g, h) => (if (!g) then some a else ((nG 136 a ([h])).bind fun b => (uH a0 d b))))
def yK (a0 : List kF) : Option (List kF) :=
 uH a0 lF ([])
def qS (g : List kF) : List kF → Nat → Option Bool
 | [], _ => some true
 | d :: b, i90 => ((mP g (i90 : Int)).bind fun a => (if (!(ng d a)) then some false else (qS g b (i90 + 1))))
def sa (a0 a : List kF) : Option Bool :=
 (if ((a0.length : Int) != (a.length : Int)) then some false else qS a a0 0)
def xY (d : kF) : List kF → Option Bool
 | [] => some false
 | b :: a => (if (ng b d) then some true else (xY d a))
def AK (a0 : List kF) (a : kF) : Option Bool :=
 xY a a0
def te (a : List ByteArray) : List ByteArray → ByteArray → Option ByteArray
 | [], d => some d
 | b :: g, d => ((sv b).bind fun i => (((if i then (((if ((a.length : Int) == 0) then some true else ((mP a (IntKind.i64.wrap ((a.length : Int) - 1))).bind fun h => some (!(rq b h || mx b h)))) : Option Bool).bind fun m => some m) else some false) : Option Bool).bind fun j => (((if j then (((if (mx d zS) then some true else some (rq b d)) : Option Bool).bind fun l => some l) else some false) : Option Bool).bind fun k => (if k then (te a g b) else (te a g d)))))
def uJ (a0 : List ByteArray) : Nat → (List ByteArray) → Option (List ByteArray)
 | 0, _ => none
 | g + 1, a => ((te a a0 zS : Option ByteArray).bind fun b => (if (mx b zS) then some a else ((nG 16 a ([b])).bind fun d => (uJ a0 g d))))
def AA (a0 : List ByteArray) : Option (List ByteArray) :=
 uJ a0 lF ([])
def th  : List kF → (List ByteArray) → Option (List ByteArray)
 | [], b => ((AA b).bind fun g => some g)
 | a :: h, b => ((nG 16 b ([a.ma, a.Head.kE, a.B.kE, a.C.kE])).bind fun d => (th h d))
def yO (a0 : List kF) : Option (List ByteArray) :=
 th a0 ([])
def wH (g : kD) (a2 : ByteArray) : List lf → Option Bool
 | [] => some false
 | b :: d => (((if (lx b.kD g) then some (mx b.ma a2) else some false) : Option Bool).bind fun a => (if a then some true else (wH g a2 d)))
def vy (a0 : List lf) (a : kD) (a2 : ByteArray) : Option Bool :=
 wH a a2 a0
def vv (a0 : List lf) (i : kF) (a3 : ByteArray) : List ByteArray → Option Bool
 | [] => some false
 | a :: b => ((vy a0 i.B a).bind fun d => (((if d then ((vy a0 (⟨a, i.mc⟩ : kD) a3).bind fun g => some g) else some false) : Option Bool).bind fun h => (if h then some true else (vv a0 i a3 b))))
def zQ (a0 : List lf) (a : kF) (a2 : List ByteArray) (a3 : ByteArray) : Option Bool :=
 (if (a.Kind == 1) then some (mx a.ma a3) else (if (a.Kind == 2) then ((vy a0 a.B a3).bind fun g => some g) else (if (a.Kind == 4) then ((vy a0 a.B a3).bind fun h => (((if h then ((vy a0 a.C a3).bind fun b => some b) else some false) : Option Bool).bind fun d => some d)) else vv a0 a a3 a2)))
def uL (a0 a : lf) : Option Bool :=
 ((xF a0.kD a.kD).bind fun g => (((if g then some true else (((if (lx a0.kD a.kD) then some (rq a0.ma a.ma) else some false) : Option Bool).bind fun d => some d)) : Option Bool).bind fun b => some b))
def pQ (b a0 : List lf) : List lf → Nat → Int → Option Int
 | [], _, a => some a
 | h :: g, d, a => (((if ((b.length : Int) == 0) then some true else ((mP b (IntKind.i64.wrap ((b.length : Int) - 1))).bind fun p => ((uL p h).bind fun j => some j))) : Option Bool).bind fun k => (((if k then (((if (decide (a < 0)) then some true else ((mP a0 a).bind fun n => ((uL h n).bind fun i => some i))) : Option Bool).bind fun m => some m) else some false) : Option Bool).bind fun l => (if l then (pQ b a0 g (d + 1) (d : Int)) else (pQ b a0 g (d + 1) a))))
def pN (a0 : List lf) : List lf → (List lf) → Option (List lf)
 | [], a => some a
 | i :: d, a => ((pQ a a0 a0 0 (-1) : Option Int).bind fun b => (if (decide (b ≥ 0)) then ((mP a0 b).bind fun h => ((nG 48 a ([h])).bind fun g => (pN a0 d g))) else (pN a0 d a)))
def As (a0 : List lf) : Option (List lf) :=
 pN a0 a0 ([])
def vp (b : kF) (m : List ByteArray) : List ByteArray → (List lf) → Bool → Option ((List lf) × Bool)
 | [], a, g => some (a, g)
 | d :: h, a, g => ((vy a b.Head d).bind fun j => (((if (!j) then ((zQ a b m d).bind fun k => some k) else some false) : Option Bool).bind fun l => (if l then ((nG 48 a ([(⟨b.Head, d⟩ : lf)])).bind fun i => (vp b m h i true)) else (vp b m h a g))))
def wU (j : List ByteArray) : List kF → (List lf) → Bool → Option ((List lf) × Bool)
 | [], a, b => some (a, b)
 | h :: d, a, b => ((vp h j j a b : Option ((List lf) × Bool)).bind fun (g, i) => (wU j d g i))
def vl (i : List ByteArray) (j : List kF) : Nat → (List lf) → Option (List lf)
 | 0, _ => none
 | b + 1, h => ((wU i j h false : Option ((List lf) × Bool)).bind fun (a, g) => (if (!g) then ((As a).bind fun d => some d) else (vl i j b a)))
def wx (a0 : List kF) : Option (List lf) :=
 ((yK a0).bind fun b => ((yO b).bind fun a => vl a b lF ([])))
def vX (a0 : List kF) (b : ByteArray) : Option ((List (kD × (List (ByteArray × Bool)))) × (List kF) × (List (kD × (List kF))) × (List (ByteArray × (List kF))) × (List lf) × Int × ByteArray) :=
 ((xV a0).bind fun a => some (a.1, a.2.1, a.2.2.1, a.2.2.2.1, a.2.2.2.2.1, a.2.2.2.2.2, b))
def ow (f1 : lm → Option Bool) : List lm → Nat → Option Int
 | [], _ => some (-1)
 | d :: a, i47 => ((f1 d).bind fun b => (if b then some (i47 : Int) else (ow f1 a (i47 + 1))))
def ue (a0 : List lm) (f1 : lm → Option Bool) : Option Int :=
 ow f1 a0 0
def xm (a0 : lm) (a : kF) : Option Bool :=
 some (ng a0.Signed.kF a)
def zB (a0 : lW) (d : kF) : Option (lm × Bool) :=
 ((ue a0.kQ (fun (x : lm) => xm x d)).bind fun a => (if (decide (a < 0)) then some ((⟨(⟨(⟨0, (⟨zS, zS⟩ : kD), zS, (⟨zS, zS⟩ : kD), (⟨zS, zS⟩ : kD), zS⟩ : kF), []⟩ : Signed), (⟨0, 0, (⟨zS, zS⟩ : kD), []⟩ : Formula)⟩ : lm), false) else ((mP a0.kQ a).bind fun b => some (b, true))))
def vz (a0 : List nY) : Option (List nY) :=
 ((nG 128 ([]) a0).bind fun a => some a)
def pb (f1 : nY → Option Bool) : List nY → Nat → Option Int
 | [], _ => some (-1)
 | d :: a, i47 => ((f1 d).bind fun b => (if b then some (i47 : Int) else (pb f1 a (i47 + 1))))
def vM (a0 : List nY) (f1 : nY → Option Bool) : Option Int :=
 pb f1 a0 0
def oS (f1 : nY → Option Bool) : Nat → (List nY) → Int → Int → Option (List nY)
 | 0, _, _, _ => none
 | i + 1, b, a, d => (if (decide (d < (b.length : Int))) then ((((mP b d).bind fun g => ((f1 g).bind fun j => (if (!j) then ((mP b a).bind fun l => some ((b.set (Int.toNat a) g), (IntKind.i64.wrap (a + 1)))) else some (b, a)))) : Option ((List nY) × Int)).bind fun (h, k) => (oS f1 i h k (IntKind.i64.wrap (d + 1)))) else ((rh (decide (0 ≤ a) && decide (a ≤ (b.length : Int)))).bind fun _ => ((rh (decide (0 ≤ a) && decide (a ≤ ((pk b (Int.toNat a) (⟨(⟨zS, zS⟩ : kD), (⟨0, 0, (⟨zS, zS⟩ : kD), []⟩ : Formula), []⟩ : nY)).length : Int)))).bind fun _ => some ((pk b (Int.toNat a) (⟨(⟨zS, zS⟩ : kD), (⟨0, 0, (⟨zS, zS⟩ : kD), []⟩ : Formula), []⟩ : nY)).take (Int.toNat a)))))
def sI (a0 : List nY) (f1 : nY → Option Bool) : Option (List nY) :=
 ((vM a0 f1).bind fun a => (if (a == (-1)) then some a0 else oS f1 lF a0 a (IntKind.i64.wrap (a + 1))))
def tj (a0 : nY) (a : kF) : Option Bool :=
 ((wG a0.nf a).bind fun b => some (!b))
def yV (a0 : lW) (b : kF) : Option (List nY) :=
 ((vz a0.li).bind fun d => ((sI d (fun (x : nY) => tj x b)).bind fun a => some a))
def qn (h : Int) (rec : Formula → Int → Option (Int × Int)) : List Formula → Int → Int → Option (Int × Int)
 | [], a, d => some (a, d)
 | i :: g, a, d => (if (decide (a > h)) then some (a, d) else ((rec i (IntKind.i64.wrap (h - a))).bind fun b => (qn h rec g (IntKind.i64.wrap (a + b.1)) (if b.2 > d then b.2 else d))))
def wy (rec : Formula → Int → Option (Int × Int)) (a0 : Formula) (d : Int) : Option (Int × Int) :=
 ((qn d rec a0.Kids 1 0 : Option (Int × Int)).bind fun (a, b) => some (a, (IntKind.i64.wrap (b + 1))))
def pt : Nat → Formula → Int → Option (Int × Int)
 | 0 => fun _ _ => none
 | n + 1 => wy (pt n)
def yf (a0 : Formula) : Option (Int × Int) :=
 ((pt lF a0 4096).bind fun a => (if (decide (a.1 > 4096)) then some (0, 0) else some (a.1, a.2)))
def yd (a0 : Formula) : Option Bool :=
 (if (a0.Op == 1) then ((rj a0.kD).bind fun g => (((if g then some ((a0.Kids.length : Int) == 0) else some false) : Option Bool).bind fun h => (((if h then some (a0.K == 0) else some false) : Option Bool).bind fun i => some i))) else (((if (a0.Op == 2) then some (a0.Op == 2) else some (a0.Op == 3)) : Option Bool).bind fun j => (if j then (((if (lx a0.kD (⟨zS, zS⟩ : kD)) then some (a0.K == 0) else some false) : Option Bool).bind fun k => some k) else (((if (a0.Op == 4) then some (lx a0.kD (⟨zS, zS⟩ : kD)) else some false) : Option Bool).bind fun l => (((if l then some (decide (a0.K ≥ 0)) else some false) : Option Bool).bind fun a => (((if a then some (decide (a0.K ≤ (a0.Kids.length : Int))) else some false) : Option Bool).bind fun b => (((if b then some (decide ((a0.Kids.length : Int) ≥ 1)) else some false) : Option Bool).bind fun d => some d)))))))
def ox (f1 : Formula → Option Bool) : List Formula → Nat → Option Int
 | [], _ => some (-1)
 | d :: a, i41 => ((f1 d).bind fun b => (if b then some (i41 : Int) else (ox f1 a (i41 + 1))))
def ua (a0 : List Formula) (f1 : Formula → Option Bool) : Option Int :=
 ox f1 a0 0
def pd (a0 : List Formula) (f1 : Formula → Option Bool) : Option Bool :=
 ((ua a0 f1).bind fun a => some (decide (a ≥ 0)))
def vu (rec : Formula → Option Bool) (a0 : Formula) : Option Bool :=
 ((rec a0).bind fun a => some (!a))
def wA (rec : Formula → Option Bool) (a0 : Formula) : Option Bool :=
 ((yd a0).bind fun d => (((if d then some (decide ((a0.Kids.length : Int) ≤ 8)) else some false) : Option Bool).bind fun g => (((if g then ((pd a0.Kids (fun (x : Formula) => vu rec x)).bind fun a => some (!a)) else some false) : Option Bool).bind fun b => some b)))
def sn : Nat → Formula → Option Bool
 | 0 => fun _ => none
 | n + 1 => wA (sn n)
def sm (a0 : Formula) : Option Bool :=
 ((yf a0).bind fun b => (((if (decide (b.1 ≥ 1)) then some (decide (b.1 ≤ 64)) else some false) : Option Bool).bind fun h => (((if h then some (decide (b.2 ≤ 6)) else some false) : Option Bool).bind fun d => (((if d then ((sn lF a0).bind fun a => some a) else some false) : Option Bool).bind fun g => some g))))
def uE (a0 : Formula) (a : Int) : Option Bool :=
 (((if (a0.Op == a) then some ((a0.Kids.length : Int) == 0) else some false) : Option Bool).bind fun x6 => some x6)
def zP  : Option Formula :=
 some (⟨2, 0, (⟨zS, zS⟩ : kD), []⟩ : Formula)
def Ar  : Option Formula :=
 some (⟨3, 0, (⟨zS, zS⟩ : kD), []⟩ : Formula)
def rG (a0 : Int) : List Formula → (List Formula) → Option (List Formula)
 | [], a => some a
 | b :: d, a => (if (b.Op == a0) then ((nG 72 a b.Kids).bind fun g => (rG a0 d g)) else ((nG 72 a ([b])).bind fun h => (rG a0 d h)))
def Bm (a0 : Int) (a : List Formula) : Option (List Formula) :=
 rG a0 a ([])
def rN (a0 : Formula) (a : Int) : Option Bool :=
 ((uE a0 a).bind fun b => some b)
def tu (a0 : List Formula) : Option (List Formula) :=
 ((nG 72 ([]) a0).bind fun a => some a)
def mY (p : Int) (f3 : (Formula × Formula) → Option Int) : Nat → (List Formula) → Int → Option (List Formula)
 | 0, _, _ => none
 | h + 1, b, a => (((if (decide (a > p)) then ((mP b a).bind fun k => ((mP b (IntKind.i64.wrap (a - 1))).bind fun l => ((f3 (k, l)).bind fun i => some (decide (i < 0))))) else some false) : Option Bool).bind fun j => (if j then ((mP b (IntKind.i64.wrap (a - 1))).bind fun g => ((mP b a).bind fun d => ((mP b a).bind fun m => ((mP (b.set (Int.toNat a) g) (IntKind.i64.wrap (a - 1))).bind fun n => (mY p f3 h ((b.set (Int.toNat a) g).set (Int.toNat (IntKind.i64.wrap (a - 1))) (⟨d.Op, d.K, d.kD, d.Kids⟩ : Formula)) (IntKind.i64.wrap (a - 1))))))) else some b))
def mO (a2 h : Int) (f3 : (Formula × Formula) → Option Int) : Nat → (List Formula) → Int → Option (List Formula)
 | 0, _, _ => none
 | g + 1, b, a => (if (decide (a < a2)) then ((mY h f3 lF b a : Option (List Formula)).bind fun d => (mO a2 h f3 g d (IntKind.i64.wrap (a + 1)))) else some b)
def oe (a0 : List Formula) (a a2 : Int) (f3 : (Formula × Formula) → Option Int) : Option (List Formula) :=
 mO a2 a f3 lF a0 (IntKind.i64.wrap (a + 1))
def nx (a3 a2 h : Int) : Nat → (List Formula) → Int → Option (List Formula)
 | 0, _, _ => none
 | i + 1, b, a => (if (decide (a < a3)) then ((mP b (IntKind.i64.wrap (a2 + a))).bind fun g => ((mP b (IntKind.i64.wrap (h + a))).bind fun d => ((mP b (IntKind.i64.wrap (h + a))).bind fun j => ((mP (b.set (Int.toNat (IntKind.i64.wrap (h + a))) g) (IntKind.i64.wrap (a2 + a))).bind fun k => (nx a3 a2 h i ((b.set (Int.toNat (IntKind.i64.wrap (h + a))) g).set (Int.toNat (IntKind.i64.wrap (a2 + a))) (⟨d.Op, d.K, d.kD, d.Kids⟩ : Formula)) (IntKind.i64.wrap (a + 1))))))) else some b)
def nX (a0 : List Formula) (a a2 a3 : Int) (f4 : (Formula × Formula) → Option Int) : Option (List Formula) :=
 nx a3 a2 a lF a0 0
def nH (a2 : Int) (f4 : (Formula × Formula) → Option Int) : Nat → (List Formula) → Int → Int → Option (List Formula)
 | 0, _, _, _ => none
 | n185 + 1, d, a, b => (if (a != b) then (if (decide (a > b)) then ((nX d (IntKind.i64.wrap (a2 - a)) a2 b f4).bind fun g => (nH a2 f4 n185 g (IntKind.i64.wrap (a - b)) b)) else ((nX d (IntKind.i64.wrap (a2 - a)) (IntKind.i64.wrap ((IntKind.i64.wrap (a2 + b)) - a)) a f4).bind fun h => (nH a2 f4 n185 h a (IntKind.i64.wrap (b - a))))) else ((nX d (IntKind.i64.wrap (a2 - a)) a2 a f4).bind fun i => some i))
def nR (a0 : List Formula) (a a2 a3 : Int) (f4 : (Formula × Formula) → Option Int) : Option (List Formula) :=
 nH a2 f4 lF a0 (IntKind.i64.wrap (a2 - a)) (IntKind.i64.wrap (a3 - a2))
def nD (h : Int) : Nat → (List Formula) → Int → Option (List Formula)
 | 0, _, _ => none
 | i + 1, b, a => (if (decide (a < (IntKind.i64.wrap (h - 1)))) then ((mP b (IntKind.i64.wrap (a + 1))).bind fun g => ((mP b a).bind fun d => ((mP b a).bind fun j => ((mP (b.set (Int.toNat a) g) (IntKind.i64.wrap (a + 1))).bind fun k => (nD h i ((b.set (Int.toNat a) g).set (Int.toNat (IntKind.i64.wrap (a + 1))) (⟨d.Op, d.K, d.kD, d.Kids⟩ : Formula)) (IntKind.i64.wrap (a + 1))))))) else some b)
def mF (a0 : List Formula) (j : Int) (f4 : (Formula × Formula) → Option Int) : Nat → Int → Int → Option (List Formula)
 | 0, _, _ => none
 | n325 + 1, a, b => (if (decide (a < b)) then ((mP a0 (IntKind.i64.wrap (Int.fdiv (IntKind.u64.wrap (IntKind.i64.wrap (a + b))) (2 ^ min (Int.toNat 1) (IntKind.bits .u64))))).bind fun h => ((mP a0 j).bind fun i => ((f4 (h, i)).bind fun g => (if (decide (g < 0)) then (mF a0 j f4 n325 (IntKind.i64.wrap ((IntKind.i64.wrap (Int.fdiv (IntKind.u64.wrap (IntKind.i64.wrap (a + b))) (2 ^ min (Int.toNat 1) (IntKind.bits .u64)))) + 1)) b) else (mF a0 j f4 n325 a (IntKind.i64.wrap (Int.fdiv (IntKind.u64.wrap (IntKind.i64.wrap (a + b))) (2 ^ min (Int.toNat 1) (IntKind.bits .u64))))))))) else ((nD a lF a0 j : Option (List Formula)).bind fun d => some d))
def nB (g : Int) : Nat → (List Formula) → Int → Option (List Formula)
 | 0, _, _ => none
 | i + 1, b, a => (if (decide (a > g)) then ((mP b (IntKind.i64.wrap (a - 1))).bind fun h => ((mP b a).bind fun d => ((mP b a).bind fun j => ((mP (b.set (Int.toNat a) h) (IntKind.i64.wrap (a - 1))).bind fun k => (nB g i ((b.set (Int.toNat a) h).set (Int.toNat (IntKind.i64.wrap (a - 1))) (⟨d.Op, d.K, d.kD, d.Kids⟩ : Formula)) (IntKind.i64.wrap (a - 1))))))) else some b)
def mH (a0 : List Formula) (a2 : Int) (f4 : (Formula × Formula) → Option Int) : Nat → Int → Int → Option (List Formula)
 | 0, _, _ => none
 | d + 1, a, b => (if (decide (a < b)) then ((mP a0 a2).bind fun i => ((mP a0 (IntKind.i64.wrap (Int.fdiv (IntKind.u64.wrap (IntKind.i64.wrap (a + b))) (2 ^ min (Int.toNat 1) (IntKind.bits .u64))))).bind fun j => ((f4 (i, j)).bind fun h => (if (!(decide (h < 0))) then (mH a0 a2 f4 d (IntKind.i64.wrap ((IntKind.i64.wrap (Int.fdiv (IntKind.u64.wrap (IntKind.i64.wrap (a + b))) (2 ^ min (Int.toNat 1) (IntKind.bits .u64)))) + 1)) b) else (mH a0 a2 f4 d a (IntKind.i64.wrap (Int.fdiv (IntKind.u64.wrap (IntKind.i64.wrap (a + b))) (2 ^ min (Int.toNat 1) (IntKind.bits .u64))))))))) else ((nB a lF a0 a2 : Option (List Formula)).bind fun g => some g))
def mo (a0 : List Formula) (d a3 a2 : Int) (f4 : (Formula × Formula) → Option Int) (rec : (List Formula) → Int → Int → Int → ((Formula × Formula) → Option Int) → Option (List Formula)) : Nat → Int → Int → Option (List Formula)
 | 0, _, _ => none
 | i + 1, a, b => (if (decide (a < b)) then ((mP a0 (IntKind.i64.wrap ((IntKind.i64.wrap ((IntKind.i64.wrap ((IntKind.i64.wrap (Int.fdiv (IntKind.u64.wrap (IntKind.i64.wrap (d + a3))) (2 ^ min (Int.toNat 1) (IntKind.bits .u64)))) + a2)) - 1)) - (IntKind.i64.wrap (Int.fdiv (IntKind.u64.wrap (IntKind.i64.wrap (a + b))) (2 ^ min (Int.toNat 1) (IntKind.bits .u64))))))).bind fun n => ((mP a0 (IntKind.i64.wrap (Int.fdiv (IntKind.u64.wrap (IntKind.i64.wrap (a + b))) (2 ^ min (Int.toNat 1) (IntKind.bits .u64))))).bind fun p => ((f4 (n, p)).bind fun j => (if (!(decide (j < 0))) then (mo a0 d a3 a2 f4 rec i (IntKind.i64.wrap ((IntKind.i64.wrap (Int.fdiv (IntKind.u64.wrap (IntKind.i64.wrap (a + b))) (2 ^ min (Int.toNat 1) (IntKind.bits .u64)))) + 1)) b) else (mo a0 d a3 a2 f4 rec i a (IntKind.i64.wrap (Int.fdiv (IntKind.u64.wrap (IntKind.i64.wrap (a + b))) (2 ^ min (Int.toNat 1) (IntKind.bits .u64))))))))) else (((((if (decide (a < a2)) then some (decide (a2 < (IntKind.i64.wrap ((IntKind.i64.wrap ((IntKind.i64.wrap (Int.fdiv (IntKind.u64.wrap (IntKind.i64.wrap (d + a3))) (2 ^ min (Int.toNat 1) (IntKind.bits .u64)))) + a2)) - a)))) else some false) : Option Bool).bind fun s => (if s then ((nR a0 a a2 (IntKind.i64.wrap ((IntKind.i64.wrap ((IntKind.i64.wrap (Int.fdiv (IntKind.u64.wrap (IntKind.i64.wrap (d + a3))) (2 ^ min (Int.toNat 1) (IntKind.bits .u64)))) + a2)) - a)) f4).bind fun m => some m) else some a0)) : Option (List Formula)).bind fun g => (((((if (decide (d < a)) then some (decide (a < (IntKind.i64.wrap (Int.fdiv (IntKind.u64.wrap (IntKind.i64.wrap (d + a3))) (2 ^ min (Int.toNat 1) (IntKind.bits .u64)))))) else some false) : Option Bool).bind fun r => (if r then ((rec g d a (IntKind.i64.wrap (Int.fdiv (IntKind.u64.wrap (IntKind.i64.wrap (d + a3))) (2 ^ min (Int.toNat 1) (IntKind.bits .u64)))) f4).bind fun l => some l) else some g)) : Option (List Formula)).bind fun h => (((if (decide ((IntKind.i64.wrap (Int.fdiv (IntKind.u64.wrap (IntKind.i64.wrap (d + a3))) (2 ^ min (Int.toNat 1) (IntKind.bits .u64)))) < (IntKind.i64.wrap ((IntKind.i64.wrap ((IntKind.i64.wrap (Int.fdiv (IntKind.u64.wrap (IntKind.i64.wrap (d + a3))) (2 ^ min (Int.toNat 1) (IntKind.bits .u64)))) + a2)) - a)))) then some (decide ((IntKind.i64.wrap ((IntKind.i64.wrap ((IntKind.i64.wrap (Int.fdiv (IntKind.u64.wrap (IntKind.i64.wrap (d + a3))) (2 ^ min (Int.toNat 1) (IntKind.bits .u64)))) + a2)) - a)) < a3)) else some false) : Option Bool).bind fun q => (if q then ((rec h (IntKind.i64.wrap (Int.fdiv (IntKind.u64.wrap (IntKind.i64.wrap (d + a3))) (2 ^ min (Int.toNat 1) (IntKind.bits .u64)))) (IntKind.i64.wrap ((IntKind.i64.wrap ((IntKind.i64.wrap (Int.fdiv (IntKind.u64.wrap (IntKind.i64.wrap (d + a3))) (2 ^ min (Int.toNat 1) (IntKind.bits .u64)))) + a2)) - a)) a3 f4).bind fun k => some k) else some h)))))
def pY (rec : (List Formula) → Int → Int → Int → ((Formula × Formula) → Option Int) → Option (List Formula)) (a0 : List Formula) (a a2 a3 : Int) (f4 : (Formula × Formula) → Option Int) : Option (List Formula) :=
 (if ((IntKind.i64.wrap (a2 - a)) == 1) then mF a0 a f4 lF a2 a3 else (if ((IntKind.i64.wrap (a3 - a2)) == 1) then mH a0 a2 f4 lF a a2 else (((if (decide (a2 > (IntKind.i64.wrap (Int.fdiv (IntKind.u64.wrap (IntKind.i64.wrap (a + a3))) (2 ^ min (Int.toNat 1) (IntKind.bits .u64)))))) then some ((IntKind.i64.wrap ((IntKind.i64.wrap ((IntKind.i64.wrap (Int.fdiv (IntKind.u64.wrap (IntKind.i64.wrap (a + a3))) (2 ^ min (Int.toNat 1) (IntKind.bits .u64)))) + a2)) - a3)), (IntKind.i64.wrap (Int.fdiv (IntKind.u64.wrap (IntKind.i64.wrap (a + a3))) (2 ^ min (Int.toNat 1) (IntKind.bits .u64))))) else some (a, a2)) : Option (Int × Int)).bind fun (b, d) => mo a0 a a3 a2 f4 rec lF b d)))
def mQ : Nat → (List Formula) → Int → Int → Int → ((Formula × Formula) → Option Int) → Option (List Formula)
 | 0 => fun _ _ _ _ _ => none
 | n + 1 => pY (mQ n)
def nF (j b : Int) (f2 : (Formula × Formula) → Option Int) : Nat → (List Formula) → Int → Int → Option ((List Formula) × Int)
 | 0, _, _, _ => none
 | h + 1, g, d, a => (if (decide (a ≤ j)) then ((mQ lF g d (IntKind.i64.wrap (d + b)) a f2).bind fun i => (nF j b f2 h i a (IntKind.i64.wrap (a + (IntKind.i64.wrap (2 * b)))))) else some (g, d))
def nr (k : Int) (f2 : (Formula × Formula) → Option Int) : Nat → (List Formula) → Int → Option (List Formula)
 | 0, _, _ => none
 | i + 1, d, a => (if (decide (a < k)) then ((nF k a f2 lF d 0 (IntKind.i64.wrap (2 * a)) : Option ((List Formula) × Int)).bind fun (g, b) => (((if (decide ((IntKind.i64.wrap (b + a)) < k)) then ((mQ lF g b (IntKind.i64.wrap (b + a)) k f2).bind fun j => some j) else some g) : Option (List Formula)).bind fun h => (nr k f2 i h (IntKind.i64.wrap (a * 2))))) else some d)
def ns (j : Int) (f2 : (Formula × Formula) → Option Int) : Nat → (List Formula) → Int → Int → Option (List Formula)
 | 0, _, _, _ => none
 | n123 + 1, d, i, a => (if (decide (a ≤ j)) then ((oe d i a f2).bind fun g => (ns j f2 n123 g a (IntKind.i64.wrap (a + 20)))) else ((oe d i j f2).bind fun h => ((nr j f2 lF h 20 : Option (List Formula)).bind fun b => some b)))
def sf (a0 : List Formula) (a : Int) (f2 : (Formula × Formula) → Option Int) : Option (List Formula) :=
 ns a f2 lF a0 0 20
def pK (a0 : List Formula) (f1 : (Formula × Formula) → Option Int) : Option (List Formula) :=
 ((sf a0 (a0.length : Int) f1).bind fun a => some a)
def rH (rec : (List Int) → Formula → Option (List Int)) : List Formula → (List Int) → Option (List Int)
 | [], a => some a
 | g :: b, a => ((rec a g).bind fun d => (rH rec b d))
def wF (rec : (List Int) → Formula → Option (List Int)) (b : List Int) (a : Formula) : Option (List Int) :=
 ((pf b a.Op).bind fun i => (if (a.Op == 1) then ((ri i.2 a.kD).bind fun h => some h.2) else (((if (a.Op == 4) then ((pf i.2 a.K).bind fun d => some d.2) else some i.2) : Option (List Int)).bind fun g => ((pf g (a.Kids.length : Int)).bind fun j => rH rec a.Kids j.2))))
def qR : Nat → (List Int) → Formula → Option (List Int)
 | 0 => fun _ _ => none
 | n + 1 => wF (qR n)
def xn (a : List Int) (b : Formula) : Option (Bool × (List Int)) :=
 ((sm b).bind fun d => (if (!d) then some (false, a) else ((qR lF a b).bind fun g => some (true, g))))
def uo (a0 : Formula) : Option (List Int) :=
 ((xn ([]) a0).bind fun b => ((uR b.2).bind fun a => some a))
def uj (a0 g : Formula) : Option Int :=
 ((uo a0).bind fun a => ((uo g).bind fun b => ((xw a b).bind fun d => some d)))
def we (a0 : List Formula) : Option (List Formula) :=
 ((tu a0).bind fun b => ((pK b (fun (x : (Formula × Formula)) => uj x.1 x.2)).bind fun a => some a))
def nP (b : Int) (f1 : (Formula × Formula) → Option Bool) : Nat → (List Formula) → Int → Int → Option ((List Formula) × Int)
 | 0, _, _, _ => none
 | i + 1, a, d, g => (if (decide (g < ((a.length - (Int.toNat b) : Nat) : Int))) then ((((mP (a.drop (Int.toNat b)) g).bind fun l => ((mP (a.drop (Int.toNat b)) (IntKind.i64.wrap (g - 1))).bind fun m => ((f1 (l, m)).bind fun j => (if (!j) then ((mP (a.drop (Int.toNat b)) g).bind fun n => ((mP a d).bind fun p => some ((a.set (Int.toNat d) n), (IntKind.i64.wrap (d + 1))))) else some (a, d))))) : Option ((List Formula) × Int)).bind fun (h, k) => (nP b f1 i h k (IntKind.i64.wrap (g + 1)))) else some (a, d))
def nN (a0 : List Formula) (f1 : (Formula × Formula) → Option Bool) : Nat → Int → Option (List Formula)
 | 0, _ => none
 | g + 1, a => (if (decide (a < (a0.length : Int))) then ((mP a0 a).bind fun i => ((mP a0 (IntKind.i64.wrap (a - 1))).bind fun j => ((f1 (i, j)).bind fun h => (if h then ((rh (decide (0 ≤ a) && decide (a ≤ (a0.length : Int)))).bind fun _ => ((nP a f1 lF a0 a 1 : Option ((List Formula) × Int)).bind fun (d, b) => ((rh (decide (0 ≤ b) && decide (b ≤ (d.length : Int)))).bind fun _ => ((rh (decide (0 ≤ b) && decide (b ≤ ((pk d (Int.toNat b) (⟨0, 0, (⟨zS, zS⟩ : kD), []⟩ : Formula)).length : Int)))).bind fun _ => some ((pk d (Int.toNat b) (⟨0, 0, (⟨zS, zS⟩ : kD), []⟩ : Formula)).take (Int.toNat b)))))) else (nN a0 f1 g (IntKind.i64.wrap (a + 1))))))) else some a0)
def qy (a0 : List Formula) (f1 : (Formula × Formula) → Option Bool) : Option (List Formula) :=
 (if (decide ((a0.length : Int) < 2)) then some a0 else nN a0 f1 lF 1)
def mC (h : List Formula) (f2 : (Formula × Formula) → Option Bool) : List Formula → Nat → Option Bool
 | [], _ => some true
 | g :: d, i95 => ((mP h (i95 : Int)).bind fun b => ((f2 (g, b)).bind fun a => (if (!a) then some false else (mC h f2 d (i95 + 1)))))
def nO (a0 a : List Formula) (f2 : (Formula × Formula) → Option Bool) : Option Bool :=
 (if ((a0.length : Int) != (a.length : Int)) then some false else mC a f2 a0 0)
def xg (rec : Formula → Formula → Option Bool) (a0 a : Formula) : Option Bool :=
 (((if (a0.Op == a.Op) then some (a0.K == a.K) else some false) : Option Bool).bind fun d => (((if d then some (lx a0.kD a.kD) else some false) : Option Bool).bind fun g => (((if g then ((nO a0.Kids a.Kids (fun (x : (Formula × Formula)) => rec x.1 x.2)).bind fun b => some b) else some false) : Option Bool).bind fun h => some h)))
def pj : Nat → Formula → Formula → Option Bool
 | 0 => fun _ _ => none
 | n + 1 => xg (pj n)
def pp (a0 : mh) (d : Int) (a2 : List Formula) : Option (Formula × mh) :=
 ((Bm d a2).bind fun j => ((pd j (fun (x : Formula) => rN x (IntKind.i64.wrap (5 - d)))).bind fun g => (if g then some ((⟨(IntKind.i64.wrap (5 - d)), 0, (⟨zS, zS⟩ : kD), []⟩ : Formula), a0) else ((we j).bind fun h => ((qy h (fun (x : (Formula × Formula)) => pj lF x.1 x.2)).bind fun a => (((if (decide ((a.length : Int) > 64)) then some (⟨12⟩ : mh) else some a0) : Option mh).bind fun b => (if ((a.length : Int) == 1) then ((mP a 0).bind fun i => some (i, b)) else some ((⟨d, 0, (⟨zS, zS⟩ : kD), a⟩ : Formula), b))))))))
def nM (a0 : mh) : List Formula → Int → (List Formula) → Option (Formula × mh)
 | [], b, a => (if (decide (b ≤ 0)) then (zP.bind fun m => some (m, a0)) else (if (decide (b > (a.length : Int))) then (Ar.bind fun n => some (n, a0)) else (if (b == (a.length : Int)) then ((pp a0 2 a).bind fun h => some (h.1, h.2)) else (if (b == 1) then ((pp a0 3 a).bind fun i => some (i.1, i.2)) else ((we a).bind fun p => some ((⟨4, b, (⟨zS, zS⟩ : kD), p⟩ : Formula), a0))))))
 | g :: d, b, a => ((uE g 2).bind fun k => (if k then (nM a0 d (IntKind.i64.wrap (b - 1)) a) else ((uE g 3).bind fun l => (if (!l) then ((nG 72 a ([g])).bind fun j => (nM a0 d b j)) else (nM a0 d b a)))))
def rO (a0 : mh) (a : Int) (a2 : List Formula) : Option (Formula × mh) :=
 nM a0 a2 a ([])
def oT (rec : mh → Formula → Option (Formula × mh)) (l : Formula) : List Formula → (List Formula) → mh → Option (Formula × mh)
 | [], a, b => (if (l.Op == 4) then ((rO b l.K a).bind fun g => some (g.1, g.2)) else ((pp b l.Op a).bind fun h => some (h.1, h.2)))
 | k :: i, a, b => ((rec b k).bind fun d => ((nG 72 a ([d.1])).bind fun j => (oT rec l i j d.2)))
def tg (rec : mh → Formula → Option (Formula × mh)) (a0 : mh) (a : Formula) : Option (Formula × mh) :=
 (if (a.Op == 1) then some (a, a0) else oT rec a a.Kids ([]) a0)
def ot : Nat → mh → Formula → Option (Formula × mh)
 | 0 => fun _ _ => none
 | n + 1 => tg (ot n)
def yJ (a0 : Formula) : Option (Formula × Int) :=
 ((sm a0).bind fun g => (if (!g) then some ((⟨0, 0, (⟨zS, zS⟩ : kD), []⟩ : Formula), 11) else ((ot lF (⟨0⟩ : mh) a0).bind fun a => (((if (a.2.e != 0) then some true else ((sm a.1).bind fun b => some (!b))) : Option Bool).bind fun d => (if d then some ((⟨0, 0, (⟨zS, zS⟩ : kD), []⟩ : Formula), 12) else some (a.1, 0))))))
def yT (a0 b : Formula) : Option (Formula × Int) :=
 ((yJ (⟨2, 0, (⟨zS, zS⟩ : kD), [a0, b]⟩ : Formula)).bind fun a => some (a.1, a.2))
def uC  : List Formula → Int → Int → Int → kD → (List Formula) → Option (Int × Int × Int × kD × (List Formula))
 | [], d, g, h, i, b => some (d, g, h, i, b)
 | k :: j, d, g, h, i, b => (if (d != 0) then some (d, g, h, i, b) else ((yT (⟨g, h, i, b⟩ : Formula) k).bind fun a => (uC j a.2 ((a.1).Op) ((a.1).K) ((a.1).kD) ((a.1).Kids))))
def wZ (a0 : List Formula) : Option (Formula × Int) :=
 ((mP a0 0).bind fun x6 => ((yJ x6).bind fun a => ((rh (decide (0 ≤ 1) && decide (1 ≤ (a0.length : Int)))).bind fun _ => ((uC (a0.drop (Int.toNat 1)) a.2 ((a.1).Op) ((a.1).K) ((a.1).kD) ((a.1).Kids) : Option (Int × Int × Int × kD × (List Formula))).bind fun (b, g, h, i, d) => (if (b != 0) then some ((⟨0, 0, (⟨zS, zS⟩ : kD), []⟩ : Formula), b) else some ((⟨g, h, i, d⟩ : Formula), 0))))))
def vk  : List nY → (List Formula) → Option (Formula × Int)
 | [], a => ((wZ a).bind fun b => some (b.1, b.2))
 | h :: d, a => ((nG 72 a ([h.kJ])).bind fun g => (vk d g))
def BA (a0 : lW) (d : kF) : Option (Formula × Int) :=
 ((zB a0 d).bind fun a => (if (!a.2) then some ((⟨0, 0, (⟨zS, zS⟩ : kD), []⟩ : Formula), 42) else ((yV a0 d).bind fun b => vk b ([(a.1).kJ]))))
def qm (rec : Formula → (kD → Option Bool) → Option Bool) (f1 : kD → Option Bool) (a0 : Formula) : List Formula → Int → Option Bool
 | [], a => (if (a0.Op == 2) then some (a == (a0.Kids.length : Int)) else (if (a0.Op == 3) then some (decide (a > 0)) else some (decide (a ≥ a0.K))))
 | g :: b, a => ((rec g f1).bind fun d => (if d then (qm rec f1 a0 b (IntKind.i64.wrap (a + 1))) else (qm rec f1 a0 b a)))
def wz (rec : Formula → (kD → Option Bool) → Option Bool) (a0 : Formula) (f1 : kD → Option Bool) : Option Bool :=
 (if (a0.Op == 1) then ((f1 a0.kD).bind fun a => some a) else qm rec f1 a0 a0.Kids 0)
def qU : Nat → Formula → (kD → Option Bool) → Option Bool
 | 0 => fun _ _ => none
 | n + 1 => wz (qU n)
def wc (a0 : Formula) (f1 : kD → Option Bool) : Option Bool :=
 ((sm a0).bind fun d => (((if d then ((qU lF a0 f1).bind fun a => some a) else some false) : Option Bool).bind fun b => some b))
def qV (a0 : kD) (h : List (kD × (List (ByteArray × Bool)))) (a : List kF) (g : List (kD × (List kF))) (b : List (ByteArray × (List kF))) (d : List lf) (i : Int) (c1 : ByteArray) : Option Bool :=
 ((uQ h a g b d i a0 c1).bind fun j => some j)
def se (a0 : lW) (d : ((List (kD × (List (ByteArray × Bool)))) × (List kF) × (List (kD × (List kF))) × (List (ByteArray × (List kF))) × (List lf) × Int × ByteArray)) : List lm → (List kF) → Option (List kF)
 | [], a => ((zM a).bind fun j => some j)
 | g :: b, a => ((BA a0 g.Signed.kF).bind fun r417 => (((if (r417.2 == 0) then ((wc r417.1 (fun (x : kD) => qV x d.1 d.2.1 d.2.2.1 d.2.2.2.1 d.2.2.2.2.1 d.2.2.2.2.2.1 d.2.2.2.2.2.2)).bind fun i => some i) else some false) : Option Bool).bind fun k => (if k then ((nG 136 a ([g.Signed.kF])).bind fun h => (se a0 d b h)) else (se a0 d b a))))
def tI (a0 : lW) (a : List kF) (a2 : ByteArray) : Option (List kF) :=
 ((vX a a2).bind fun b => se a0 b a0.kQ ([]))
def qv (a0 k : lW) : Nat → (List kF) → (List kF) → Int → Option ((List kF) × (List kF) × Int)
 | 0, _, _, _ => none
 | i + 1, a, b, h => ((tI a0 b k.Name).bind fun d => ((tI k a a0.Name).bind fun g => (((if ((d.length : Int) == (a.length : Int)) then some ((g.length : Int) == (b.length : Int)) else some false) : Option Bool).bind fun j => (if j then some (a, b, h) else (qv a0 k i d g (IntKind.i64.wrap (h + 1)))))))
def wY (a0 a : lW) : Option ((List kF) × (List kF) × Int) :=
 qv a0 a lF ([]) ([]) 0
def pM (a0 : List lm) : Option (List lm) :=
 ((nG 232 ([]) a0).bind fun a => some a)
def sU (rec : (List Formula) → Option Int) : List Formula → Int → Option Int
 | [], b => some b
 | a :: g, b => ((rec a.Kids).bind fun d => (sU rec g (IntKind.i64.wrap (b + (IntKind.i64.wrap ((IntKind.i64.wrap (1 + (IntKind.i64.wrap (Int.tdiv (IntKind.i64.wrap ((a.kD.kE.size : Int) + (a.kD.kL.size : Int))) 16)))) + d))))))
def xB (rec : (List Formula) → Option Int) (a0 : List Formula) : Option Int :=
 sU rec a0 0
def pJ : Nat → (List Formula) → Option Int
 | 0 => fun _ => none
 | n + 1 => xB (pJ n)
def ta  : List nY → Int → Option Int
 | [], b => some b
 | a :: d, b => ((pJ lF ([a.kJ])).bind fun g => ((wK a.nf).bind fun h => (ta d (IntKind.i64.wrap (b + (IntKind.i64.wrap ((IntKind.i64.wrap ((IntKind.i64.wrap ((a.kD.kE.size : Int) + (a.kD.kL.size : Int))) + (IntKind.i64.wrap (20 * g)))) + h)))))))
def sR (a0 : lW) : List lm → Int → Option Int
 | [], a => ((ta a0.li a : Option Int).bind fun d => some d)
 | b :: g, a => ((((vo ([]) ([b.Signed])).bind fun j => some (j, ([b.kJ]))) : Option (Int × (List Formula))).bind fun (k, h) => ((pJ lF h).bind fun i => (sR a0 g (IntKind.i64.wrap (a + (IntKind.i64.wrap (k + (IntKind.i64.wrap (20 * i)))))))))
def wV (a0 : lW) : Option Int :=
 sR a0 a0.kQ (a0.Name.size : Int)
def yX (a0 : mI) : Option Int :=
 ((((wV a0.kE).bind fun g => ((wV a0.Client).bind fun h => some ((IntKind.i64.wrap (g + h)), ([a0.Formula])))) : Option (Int × (List Formula))).bind fun (i, a) => ((pJ lF a).bind fun b => ((vo a0.Keys ([])).bind fun d => some (IntKind.i64.wrap ((IntKind.i64.wrap (i + (IntKind.i64.wrap (20 * b)))) + d)))))
def rD (h : ByteArray) : List lf → (List kD) → Option (List kD)
 | [], a => some a
 | g :: b, a => (if (mx g.ma h) then ((nG 32 a ([g.kD])).bind fun d => (rD h b d)) else (rD h b a))
def tW (a0 : List lf) (a : ByteArray) : Option (List kD) :=
 rD a a0 ([])
def sW (rec : Formula → Option Int) : List Formula → Int → Option Int
 | [], a => some a
 | g :: d, a => ((rec g).bind fun b => (sW rec d (IntKind.i64.wrap (a + b))))
def xI (rec : Formula → Option Int) (a0 : Formula) : Option Int :=
 sW rec a0.Kids 1
def sr : Nat → Formula → Option Int
 | 0 => fun _ => none
 | n + 1 => xI (sr n)
def tM (rec : Formula → Option Int) : List Formula → Int → Option Int
 | [], a => some (IntKind.i64.wrap (a + 1))
 | g :: d, a => ((rec g).bind fun b => (tM rec d (if b > a then b else a)))
def yx (rec : Formula → Option Int) (a0 : Formula) : Option Int :=
 tM rec a0.Kids 0
def tE : Nat → Formula → Option Int
 | 0 => fun _ => none
 | n + 1 => yx (tE n)
def tU (rec : Formula → Option Bool) : List Formula → Option Bool
 | [] => some true
 | d :: a => ((rec d).bind fun b => (if (!b) then some false else (tU rec a)))
def yu (rec : Formula → Option Bool) (a0 : Formula) : Option Bool :=
 (if (a0.Op == 1) then ((ub a0.kD).bind fun n => (((if n then some ((a0.Kids.length : Int) == 0) else some false) : Option Bool).bind fun h => (((if h then some (a0.K == 0) else some false) : Option Bool).bind fun i => some i))) else (((if (decide (a0.Op < 1)) then some true else some (decide (a0.Op > 4))) : Option Bool).bind fun j => (((if j then some true else some (!(lx a0.kD (⟨zS, zS⟩ : kD)))) : Option Bool).bind fun k => (((if k then some true else some (decide ((a0.Kids.length : Int) > 8))) : Option Bool).bind fun l => (if l then some false else (((if (decide (a0.Op < 4)) then some (a0.K != 0) else some false) : Option Bool).bind fun m => (((if m then some true else (((if (a0.Op == 4) then (((if (decide ((a0.Kids.length : Int) < 1)) then some true else some (decide (a0.K < 0))) : Option Bool).bind fun d => (((if d then some true else some (decide (a0.K > (a0.Kids.length : Int)))) : Option Bool).bind fun g => some g)) else some false) : Option Bool).bind fun b => some b)) : Option Bool).bind fun a => (if a then some false else tU rec a0.Kids))))))))
def tL : Nat → Formula → Option Bool
 | 0 => fun _ => none
 | n + 1 => yu (tL n)
def ru (a0 : Formula) : Option Bool :=
 ((sr lF a0).bind fun h => (((if (decide (h ≤ 64)) then ((tE lF a0).bind fun b => some (decide (b ≤ 6))) else some false) : Option Bool).bind fun d => (((if d then ((tL lF a0).bind fun a => some a) else some false) : Option Bool).bind fun g => some g)))
def wj (a0 : Formula) (a : Int) : Option Bool :=
 (((if (a0.Op == a) then some ((a0.Kids.length : Int) == 0) else some false) : Option Bool).bind fun x6 => some x6)
def tf (rec : Formula → Option ByteArray) : List Formula → ByteArray → Option ByteArray
 | [], a => some a
 | h :: g, a => ((rec h).bind fun b => ((xD a b).bind fun d => (tf rec g d)))
def xE (rec : Formula → Option ByteArray) (a0 : Formula) : Option ByteArray :=
 ((rL a0.Op).bind fun g => (if (a0.Op == 1) then ((ud a0.kD).bind fun k => ((xD g k).bind fun h => some h)) else (((if (a0.Op == 4) then ((rL a0.K).bind fun a => ((xD g a).bind fun b => some b)) else some g) : Option ByteArray).bind fun j => ((rL (a0.Kids.length : Int)).bind fun d => ((xD j d).bind fun i => tf rec a0.Kids i)))))
def qu : Nat → Formula → Option ByteArray
 | 0 => fun _ => none
 | n + 1 => xE (qu n)
def xl (a0 j : Formula) : Option Int :=
 ((((ru a0).bind fun h => (if h then ((qu lF a0).bind fun i => some i) else some zS)) : Option ByteArray).bind fun a => ((((ru j).bind fun d => (if d then ((qu lF j).bind fun g => some g) else some zS)) : Option ByteArray).bind fun b => (if (rq a b) then some (-1) else (if (!(rq a b || mx a b)) then some 1 else some 0))))
def tS (h : Formula) (rec : Formula → Formula → Option Bool) : List Formula → Nat → Option Bool
 | [], _ => some true
 | d :: a, i182 => ((mP h.Kids (i182 : Int)).bind fun g => ((rec d g).bind fun b => (if (!b) then some false else (tS h rec a (i182 + 1)))))
def yv (rec : Formula → Formula → Option Bool) (a0 a : Formula) : Option Bool :=
 (((if (a0.Op != a.Op) then some true else some (a0.K != a.K)) : Option Bool).bind fun b => (((if b then some true else some (!(lx a0.kD a.kD))) : Option Bool).bind fun d => (((if d then some true else some ((a0.Kids.length : Int) != (a.Kids.length : Int))) : Option Bool).bind fun g => (if g then some false else tS a rec a0.Kids 0))))
def ql : Nat → Formula → Formula → Option Bool
 | 0 => fun _ _ => none
 | n + 1 => yv (ql n)
def qM (b : List Formula) (d : Formula) : Nat → Int → Option Int
 | 0, _ => none
 | g + 1, a => (((if (decide (a > 0)) then ((mP b (IntKind.i64.wrap (a - 1))).bind fun j => ((xl j d).bind fun h => some (decide (h > 0)))) else some false) : Option Bool).bind fun i => (if i then (qM b d g (IntKind.i64.wrap (a - 1))) else some a))
def nK (p : Bool) : List Formula → (List Formula) → Option (List Formula)
 | [], a => some a
 | d :: g, a => ((qM a d lF (a.length : Int) : Option Int).bind fun b => (((if p then some (decide (b > 0)) else some false) : Option Bool).bind fun l => (((if l then ((mP a (IntKind.i64.wrap (b - 1))).bind fun n => ((ql lF n d).bind fun k => some k)) else some false) : Option Bool).bind fun m => (if m then (nK p g a) else ((rh (decide (0 ≤ b) && decide (b ≤ (a.length : Int)))).bind fun _ => ((nG 72 ([]) (a.take (Int.toNat b))).bind fun h => ((nG 72 h ([d])).bind fun i => ((rh (decide (0 ≤ b) && decide (b ≤ (a.length : Int)))).bind fun _ => ((nG 72 i (a.drop (Int.toNat b))).bind fun j => (nK p g j))))))))))
def vS (a0 : List Formula) (a : Bool) : Option (List Formula) :=
 nK a a0 ([])
def qj (g : Int) (a0 : mA) : List Formula → Option ((Formula × mA) ⊕ Unit)
 | [] => some (Sum.inr ())
 | d :: a => ((wj d (IntKind.i64.wrap (5 - g))).bind fun b => (if b then some (Sum.inl ((⟨(IntKind.i64.wrap (5 - g)), 0, (⟨zS, zS⟩ : kD), []⟩ : Formula), a0)) else (qj g a0 a)))
def oh (i : Int) (a0 : mA) : List Formula → (List Formula) → Option (Formula × mA)
 | [], a => ((qj i a0 a : Option ((Formula × mA) ⊕ Unit)).bind fun s => match s with | .inl l => some l | .inr _ => ((vS a true).bind fun b => (((if a0.PC then some true else some (decide ((b.length : Int) > 64))) : Option Bool).bind fun h => (if ((b.length : Int) == 1) then ((mP b 0).bind fun n => some (n, (⟨h⟩ : mA))) else some ((⟨i, 0, (⟨zS, zS⟩ : kD), b⟩ : Formula), (⟨h⟩ : mA))))))
 | d :: g, a => (if (d.Op == i) then ((nG 72 a d.Kids).bind fun j => (oh i a0 g j)) else ((wj d (IntKind.i64.wrap (5 - i))).bind fun m => (if m then some ((⟨(IntKind.i64.wrap (5 - i)), 0, (⟨zS, zS⟩ : kD), []⟩ : Formula), a0) else ((nG 72 a ([d])).bind fun k => (oh i a0 g k)))))
def qb (a0 : mA) (a : Int) (a2 : List Formula) : Option (Formula × mA) :=
 oh a a0 a2 ([])
def ob  : List Formula → Int → (List Formula) → Option (Int × (List Formula))
 | [], b, a => some (b, a)
 | g :: d, b, a => ((wj g 2).bind fun i => (if i then (ob d (IntKind.i64.wrap (b - 1)) a) else ((wj g 3).bind fun j => (if (!j) then ((nG 72 a ([g])).bind fun h => (ob d b h)) else (ob d b a)))))
def oz (rec : mA → Formula → Option (Formula × mA)) (q : Formula) : List Formula → (List Formula) → mA → Option (Formula × mA)
 | [], g, a => (if (decide (q.Op < 4)) then ((qb a q.Op g).bind fun i => some (i.1, i.2)) else ((ob g q.K ([]) : Option (Int × (List Formula))).bind fun (d, b) => (if (decide (d ≤ 0)) then some ((⟨2, 0, (⟨zS, zS⟩ : kD), []⟩ : Formula), a) else (if (decide (d > (b.length : Int))) then some ((⟨3, 0, (⟨zS, zS⟩ : kD), []⟩ : Formula), a) else (if (d == (b.length : Int)) then ((qb a 2 b).bind fun j => some (j.1, j.2)) else (if (d == 1) then ((qb a 3 b).bind fun k => some (k.1, k.2)) else ((vS b false).bind fun n => some ((⟨4, d, (⟨zS, zS⟩ : kD), n⟩ : Formula), a))))))))
 | p :: l, g, a => ((rec a p).bind fun h => ((nG 72 g ([h.1])).bind fun m => (oz rec q l m h.2)))
def tF (rec : mA → Formula → Option (Formula × mA)) (a0 : mA) (a : Formula) : Option (Formula × mA) :=
 (if (a.Op == 1) then some (a, a0) else oz rec a a.Kids ([]) a0)
def og : Nat → mA → Formula → Option (Formula × mA)
 | 0 => fun _ _ => none
 | n + 1 => tF (og n)
def zy (a0 : Formula) : Option (Formula × Int) :=
 ((ru a0).bind fun g => (if (!g) then some ((⟨0, 0, (⟨zS, zS⟩ : kD), []⟩ : Formula), 11) else ((og lF (⟨false⟩ : mA) a0).bind fun a => (((if a.2.PC then some true else ((ru a.1).bind fun b => some (!b))) : Option Bool).bind fun d => (if d then some ((⟨0, 0, (⟨zS, zS⟩ : kD), []⟩ : Formula), 12) else some (a.1, 0))))))
def tY (n : kF) : List nY → Int → Int → Int → kD → (List Formula) → Option (Int × Int × Int × kD × (List Formula))
 | [], d, g, h, i, b => some (d, g, h, i, b)
 | k :: j, d, g, h, i, b => (((if (d == 0) then ((AK k.nf n).bind fun l => some l) else some false) : Option Bool).bind fun m => (if m then ((zy (⟨2, 0, (⟨zS, zS⟩ : kD), [(⟨g, h, i, b⟩ : Formula), k.kJ]⟩ : Formula)).bind fun a => (tY n j a.2 ((a.1).Op) ((a.1).K) ((a.1).kD) ((a.1).Kids))) else (tY n j d g h i b)))
def wT (l : kF) (a0 : lW) : List lm → Option (Formula × Int)
 | [] => some ((⟨0, 0, (⟨zS, zS⟩ : kD), []⟩ : Formula), 42)
 | b :: g => (if (!(ng b.Signed.kF l)) then (wT l a0 g) else ((zy b.kJ).bind fun a => ((tY l a0.li a.2 ((a.1).Op) ((a.1).K) ((a.1).kD) ((a.1).Kids) : Option (Int × Int × Int × kD × (List Formula))).bind fun (d, i, j, k, h) => (if (d != 0) then some ((⟨0, 0, (⟨zS, zS⟩ : kD), []⟩ : Formula), d) else some ((⟨i, j, k, h⟩ : Formula), 0)))))
def BB (a0 : lW) (a : kF) : Option (Formula × Int) :=
 wT a a0 a0.kQ
def xX (d : kD) : List kD → Option Bool
 | [] => some false
 | b :: a => (if (lx b d) then some true else (xX d a))
def AE (a0 : List kD) (a : kD) : Option Bool :=
 xX a a0
def so (rec : Formula → (List kD) → Option Bool) (g : List kD) (a0 : Formula) : List Formula → Int → Option Bool
 | [], a => (if (a0.Op == 2) then some (a == (a0.Kids.length : Int)) else (if (a0.Op == 3) then some (decide (a > 0)) else some (decide (a ≥ a0.K))))
 | h :: b, a => ((rec h g).bind fun d => (if d then (so rec g a0 b (IntKind.i64.wrap (a + 1))) else (so rec g a0 b a)))
def yw (rec : Formula → (List kD) → Option Bool) (a0 : Formula) (a : List kD) : Option Bool :=
 (if (a0.Op == 1) then ((AE a a0.kD).bind fun b => some b) else so rec a a0 a0.Kids 0)
def rW : Nat → Formula → (List kD) → Option Bool
 | 0 => fun _ _ => none
 | n + 1 => yw (rW n)
def sk (a0 : lW) (h : List kD) : List lm → (List kF) → Option (List kF)
 | [], a => ((yK a).bind fun k => some k)
 | g :: b, a => ((BB a0 g.Signed.kF).bind fun d => (((if (d.2 == 0) then ((rW lF d.1 h).bind fun j => some j) else some false) : Option Bool).bind fun l => (if l then ((nG 136 a ([g.Signed.kF])).bind fun i => (sk a0 h b i)) else (sk a0 h b a))))
def xO (a0 : lW) (b : List kF) (a2 : ByteArray) : Option (List kF) :=
 ((wx b).bind fun d => ((tW d a2).bind fun a => sk a0 a a0.kQ ([])))
def uf (a0 l : lW) : Nat → (List kF) → (List kF) → Int → Option ((List kF) × (List kF) × Int)
 | 0, _, _, _ => none
 | n296 + 1, a, b, h => ((xO a0 b l.Name).bind fun d => ((xO l a a0.Name).bind fun g => ((sa d a).bind fun i => (((if i then ((sa g b).bind fun j => some j) else some false) : Option Bool).bind fun k => (if k then some (a, b, h) else (uf a0 l n296 d g (IntKind.i64.wrap (h + 1))))))))
def Bs (a0 a : lW) : Option ((List kF) × (List kF) × Int) :=
 uf a0 a lF ([]) ([]) 0
def pC (a0 : kF) : Option lm :=
 ((Fl 1 0 8).bind fun a => some (⟨(⟨a0, a⟩ : Signed), (⟨2, 0, (⟨zS, zS⟩ : kD), []⟩ : Formula)⟩ : lm))
def Bc (a0 d : lW) : Option ((List kF) × (List (kD × (List (ByteArray × Bool)))) × (List kF) × (List (kD × (List kF))) × (List (ByteArray × (List kF))) × (List lf) × Int × ByteArray) :=
 ((wY a0 d).bind fun b => ((xV b.2.1).bind fun a => some (b.2.1, a.1, a.2.1, a.2.2.1, a.2.2.2.1, a.2.2.2.2.1, a.2.2.2.2.2, d.Name)))
def wC (a0 : kD) (h : List (kD × (List (ByteArray × Bool)))) (a : List kF) (g : List (kD × (List kF))) (b : List (ByteArray × (List kF))) (d : List lf) (j : Int) (i : ByteArray) (k : List lm) (l : List nY) : Option Bool :=
 ((uQ h a g b d j a0 i).bind fun m => some m)
def vC (a0 b : lW) (a2 : Formula) : Option Bool :=
 ((Bc a0 b).bind fun a => ((wc a2 (fun (x : kD) => wC x a.2.1 a.2.2.1 a.2.2.2.1 a.2.2.2.2.1 a.2.2.2.2.2.1 a.2.2.2.2.2.2.1 a.2.2.2.2.2.2.2 b.kQ b.li)).bind fun d => some d))
def qx (a0 : mI) : Option Bool :=
 ((vC a0.kE a0.Client a0.Formula).bind fun a => some a)
def pu (a0 : mI) (a : Int) : Option Nat :=
 (if (a == 0) then some 0 else some 3)
def pz (a0 : List lm) (a a2 : Int) : Option (List lm) :=
 ((rh (decide (0 ≤ a ∧ a ≤ a2 ∧ a2 ≤ (a0.length : Int) ∧ (a0.length : Int) ≤ (a0.length : Int)))).bind fun _ => (if (a == a2) then some a0 else ((rh (decide (0 ≤ a) && decide (a ≤ (a0.length : Int)))).bind fun _ => ((rh (decide (0 ≤ a2) && decide (a2 ≤ (a0.length : Int)))).bind fun _ => ((rh (decide ((Int.toNat a) ≤ (Int.toNat a2) ∧ (Int.toNat a2) ≤ a0.length))).bind fun b => ((rh (decide (0 ≤ ((a0.take (Int.toNat a) ++ a0.drop (Int.toNat a2)).length : Int) ∧ ((a0.take (Int.toNat a) ++ a0.drop (Int.toNat a2)).length : Int) ≤ (a0.length : Int) ∧ (a0.length : Int) = ((yy a0 (Int.toNat a) (Int.toNat a2)).length : Int) ∧ ((a0.take (Int.toNat a) ++ a0.drop (Int.toNat a2)).length : Int) = ((a0.take (Int.toNat a) ++ a0.drop (Int.toNat a2)).length : Int)))).bind fun _ => some ((pk (yy a0 (Int.toNat a) (Int.toNat a2)) (Int.toNat ((a0.take (Int.toNat a) ++ a0.drop (Int.toNat a2)).length : Int)) (⟨(⟨(⟨0, (⟨zS, zS⟩ : kD), zS, (⟨zS, zS⟩ : kD), (⟨zS, zS⟩ : kD), zS⟩ : kF), []⟩ : Signed), (⟨0, 0, (⟨zS, zS⟩ : kD), []⟩ : Formula)⟩ : lm)).take (a0.take (Int.toNat a) ++ a0.drop (Int.toNat a2)).length)))))))
def rl (a0 : mI) (d a2 : Int) : Option mI :=
 (((if (decide (d < 0)) then some true else some (decide (d > 1))) : Option Bool).bind fun j => (if j then some a0 else ((pu a0 d).bind fun g => (if (g == 0) then (((if (decide (a2 < 0)) then some true else some (decide (a2 ≥ (a0.kE.kQ.length : Int)))) : Option Bool).bind fun k => (if k then some a0 else ((pM a0.kE.kQ).bind fun h => ((pz h a2 (IntKind.i64.wrap (a2 + 1))).bind fun i => some (⟨(⟨a0.kE.Name, i, a0.kE.li⟩ : lW), (⟨a0.Client.Name, a0.Client.kQ, a0.Client.li⟩ : lW), (⟨a0.Formula.Op, a0.Formula.K, a0.Formula.kD, a0.Formula.Kids⟩ : Formula), a0.oN, a0.mw, a0.mW, a0.nU, a0.ny, a0.Keys⟩ : mI))))) else (((if (decide (a2 < 0)) then some true else some (decide (a2 ≥ (a0.Client.kQ.length : Int)))) : Option Bool).bind fun l => (if l then some a0 else ((pM a0.Client.kQ).bind fun a => ((pz a a2 (IntKind.i64.wrap (a2 + 1))).bind fun b => some (⟨(⟨a0.kE.Name, a0.kE.kQ, a0.kE.li⟩ : lW), (⟨a0.Client.Name, b, a0.Client.li⟩ : lW), (⟨a0.Formula.Op, a0.Formula.K, a0.Formula.kD, a0.Formula.Kids⟩ : Formula), a0.oN, a0.mw, a0.mW, a0.nU, a0.ny, a0.Keys⟩ : mI)))))))))
def qL (a0 : mI) (d : Int) : List lm → Nat → (List mj) → Option (List mj)
 | [], _, b => some b
 | k :: g, a, b => ((rl a0 d (a : Int)).bind fun i => ((qx i).bind fun j => (if (!j) then ((nG 16 b ([(⟨d, (a : Int)⟩ : mj)])).bind fun h => (qL a0 d g (a + 1) h)) else (qL a0 d g (a + 1) b))))
def qH (a0 : mI) (d : Int) : List lm → Nat → (List mj) → Option (List mj)
 | [], _, b => some b
 | k :: g, a, b => ((rl a0 d (a : Int)).bind fun i => ((qx i).bind fun j => (if (!j) then ((nG 16 b ([(⟨d, (a : Int)⟩ : mj)])).bind fun h => (qH a0 d g (a + 1) h)) else (qH a0 d g (a + 1) b))))
def pR (a0 : mI) : Nat → (List mj) → Int → Option (List mj)
 | 0, _, _ => none
 | d + 1, b, a => (if (decide (a < 2)) then ((pu a0 a).bind fun i => (if (i == 0) then ((qL a0 a a0.kE.kQ 0 b : Option (List mj)).bind fun g => (pR a0 d g (IntKind.i64.wrap (a + 1)))) else ((qH a0 a a0.Client.kQ 0 b : Option (List mj)).bind fun h => (pR a0 d h (IntKind.i64.wrap (a + 1)))))) else some b)
def uF (a0 : mI) : Option (List mj) :=
 ((qx a0).bind fun a => (if (!a) then some [] else pR a0 lF ([]) 0))
def qJ  : Nat → Int → ByteArray → (List lm) → (List nY) → ByteArray → (List lm) → (List nY) → Int → Int → kD → (List Formula) → Int → mj → Int → Int → Int → (List Key) → Option (ByteArray × (List lm) × (List nY) × ByteArray × (List lm) × (List nY) × Int × Int × kD × (List Formula) × Int × mj × Int × Int × Int × (List Key))
 | 0, _, _, _, _, _, _, _, _, _, _, _, _, _, _, _, _, _ => none
 | E + 1, k, l, b, d, m, g, h, n, p, q, i, r, s, t, u, v, j => (if (decide (k ≥ 0)) then ((((rl (⟨(⟨l, b, d⟩ : lW), (⟨m, g, h⟩ : lW), (⟨n, p, q, i⟩ : Formula), r, s, t, u, v, j⟩ : mI) 0 k).bind fun a => ((qx a).bind fun F => (if F then some ((((a).kE).Name), (((a).kE).kQ), (((a).kE).li), (((a).Client).Name), (((a).Client).kQ), (((a).Client).li), (((a).Formula).Op), (((a).Formula).K), (((a).Formula).kD), (((a).Formula).Kids), ((a).oN), ((a).mw), ((a).mW), ((a).nU), ((a).ny), ((a).Keys)) else some (l, b, d, m, g, h, n, p, q, i, r, s, t, u, v, j)))) : Option (ByteArray × (List lm) × (List nY) × ByteArray × (List lm) × (List nY) × Int × Int × kD × (List Formula) × Int × mj × Int × Int × Int × (List Key))).bind fun (G, w, x, I, y, z, J, L, M, A, O, P, Q, R, T, D) => (qJ E (IntKind.i64.wrap (k - 1)) G w x I y z J L M A O P Q R T D)) else some (l, b, d, m, g, h, n, p, q, i, r, s, t, u, v, j))
def qD  : Nat → Int → ByteArray → (List lm) → (List nY) → ByteArray → (List lm) → (List nY) → Int → Int → kD → (List Formula) → Int → mj → Int → Int → Int → (List Key) → Option (mI × Bool)
 | 0, _, _, _, _, _, _, _, _, _, _, _, _, _, _, _, _, _ => none
 | M + 1, v, k, b, d, l, g, h, m, n, p, i, q, r, s, t, u, j => (if (decide (v ≥ 0)) then ((((rl (⟨(⟨k, b, d⟩ : lW), (⟨l, g, h⟩ : lW), (⟨m, n, p, i⟩ : Formula), q, r, s, t, u, j⟩ : mI) 1 v).bind fun a => ((qx a).bind fun O => (if O then some ((((a).kE).Name), (((a).kE).kQ), (((a).kE).li), (((a).Client).Name), (((a).Client).kQ), (((a).Client).li), (((a).Formula).Op), (((a).Formula).K), (((a).Formula).kD), (((a).Formula).Kids), ((a).oN), ((a).mw), ((a).mW), ((a).nU), ((a).ny), ((a).Keys)) else some (k, b, d, l, g, h, m, n, p, i, q, r, s, t, u, j)))) : Option (ByteArray × (List lm) × (List nY) × ByteArray × (List lm) × (List nY) × Int × Int × kD × (List Formula) × Int × mj × Int × Int × Int × (List Key))).bind fun (P, w, x, Q, y, z, R, T, U, A, W, Y, Z, a1, a6, D) => (qD M (IntKind.i64.wrap (v - 1)) P w x Q y z R T U A W Y Z a1 a6 D)) else ((pu (⟨(⟨k, b, d⟩ : lW), (⟨l, g, h⟩ : lW), (⟨m, n, p, i⟩ : Formula), q, r, s, t, u, j⟩ : mI) 0).bind fun aj => ((qJ lF (IntKind.i64.wrap ((b.length : Int) - 1)) k b d l g h m n p i q r s t u j : Option (ByteArray × (List lm) × (List nY) × ByteArray × (List lm) × (List nY) × Int × Int × kD × (List Formula) × Int × mj × Int × Int × Int × (List Key))).bind fun (a7, E, F, a8, G, I, aa, ab, ad, J, ae, af, ag, ah, ai, L) => some ((⟨(⟨a7, E, F⟩ : lW), (⟨a8, G, I⟩ : lW), (⟨aa, ab, ad, J⟩ : Formula), ae, af, ag, ah, ai, L⟩ : mI), true))))
def wk (a0 : mI) : Option (mI × Bool) :=
 ((qx a0).bind fun a => (if (!a) then some (a0, false) else ((pu a0 1).bind fun b => qD lF (IntKind.i64.wrap ((a0.Client.kQ.length : Int) - 1)) a0.kE.Name a0.kE.kQ a0.kE.li a0.Client.Name a0.Client.kQ a0.Client.li a0.Formula.Op a0.Formula.K a0.Formula.kD a0.Formula.Kids a0.oN a0.mw a0.mW a0.nU a0.ny a0.Keys)))
def qt (a0 : mI) : Option Int :=
 ((wY a0.kE a0.Client).bind fun a => some (IntKind.i64.wrap ((a.1.length : Int) + (a.2.1.length : Int))))
def wQ  : Option Bool :=
 ((((pC (⟨1, (⟨(⟨#[120]⟩ : ByteArray), (⟨#[121]⟩ : ByteArray)⟩ : kD), (⟨#[99, 108, 105]⟩ : ByteArray), (⟨zS, zS⟩ : kD), (⟨zS, zS⟩ : kD), zS⟩ : kF)).bind fun z => ((pC (⟨1, (⟨(⟨(⟨#[120]⟩ : ByteArray), (⟨#[121]⟩ : ByteArray)⟩ : kD).kE, (⟨#[122]⟩ : ByteArray)⟩ : kD), (⟨#[99, 108, 105]⟩ : ByteArray), (⟨zS, zS⟩ : kD), (⟨zS, zS⟩ : kD), zS⟩ : kF)).bind fun A => some ((⟨#[111, 119, 110]⟩ : ByteArray), ([]), ([]), (⟨#[99, 108, 105]⟩ : ByteArray), ([z, A]), ([]), 1, 0, (⟨(⟨#[120]⟩ : ByteArray), (⟨#[121]⟩ : ByteArray)⟩ : kD), ([]), 0, (⟨0, 0⟩ : mj), 0, 0, 0, ([]), zS, ([]), ([]), zS, ([]), ([]), 0, 0, (⟨zS, zS⟩ : kD), ([]), 0, (⟨0, 0⟩ : mj), 0, 0, 0, ([])))) : Option (ByteArray × (List lm) × (List nY) × ByteArray × (List lm) × (List nY) × Int × Int × kD × (List Formula) × Int × mj × Int × Int × Int × (List Key) × ByteArray × (List lm) × (List nY) × ByteArray × (List lm) × (List nY) × Int × Int × kD × (List Formula) × Int × mj × Int × Int × Int × (List Key))).bind fun (k, a, b, l, d, g, m, n, p, h, q, r, s, t, u, i, Y, P, Q, Z, R, T, a1, a6, a7, U, a8, aa, ab, ad, ae, W) => ((uF (⟨(⟨k, a, b⟩ : lW), (⟨l, d, g⟩ : lW), (⟨m, n, p, h⟩ : Formula), q, r, s, t, u, i⟩ : mI)).bind fun v => ((wk (⟨(⟨k, a, b⟩ : lW), (⟨l, d, g⟩ : lW), (⟨m, n, p, h⟩ : Formula), q, r, s, t, u, i⟩ : mI)).bind fun j => (((if ((v.length : Int) == 1) then ((mP v 0).bind fun O => some (xU O (⟨1, 0⟩ : mj))) else some false) : Option Bool).bind fun D => (((if D then some j.2 else some false) : Option Bool).bind fun E => (((if E then some (((((j.1).Client).kQ).length : Int) == 1) else some false) : Option Bool).bind fun F => (((if F then ((mP (((j.1).Client).kQ) 0).bind fun M => some (ng M.Signed.kF (⟨1, (⟨(⟨#[120]⟩ : ByteArray), (⟨#[121]⟩ : ByteArray)⟩ : kD), (⟨#[99, 108, 105]⟩ : ByteArray), (⟨zS, zS⟩ : kD), (⟨zS, zS⟩ : kD), zS⟩ : kF))) else some false) : Option Bool).bind fun G => (((if G then ((qt (⟨(⟨k, a, b⟩ : lW), (⟨l, d, g⟩ : lW), (⟨m, n, p, h⟩ : Formula), q, r, s, t, u, i⟩ : mI)).bind fun y => some (y == 2)) else some false) : Option Bool).bind fun I => (((if I then ((qt j.1).bind fun x => some (x == 1)) else some false) : Option Bool).bind fun J => (((if J then ((rl (⟨(⟨k, a, b⟩ : lW), (⟨l, d, g⟩ : lW), (⟨m, n, p, h⟩ : Formula), q, r, s, t, u, i⟩ : mI) 1 0).bind fun w => some (((((w).Client).kQ).length : Int) == 1)) else some false) : Option Bool).bind fun L => some L))))))))))
def Be (a0 g : lW) : Option (List kD) :=
 ((Bs a0 g).bind fun a => ((wx a.2.1).bind fun b => ((tW b g.Name).bind fun d => some d)))
def yc (a0 h : lW) (a2 : Formula) : Option Bool :=
 ((ru a2).bind fun g => (((if g then ((Be a0 h).bind fun a => ((rW lF a2 a).bind fun b => some b)) else some false) : Option Bool).bind fun d => some d))
def uG (a0 : mI) : Option Bool :=
 ((yc a0.kE a0.Client a0.Formula).bind fun a => some a)
def sX (g : Int) : List lm → Nat → (List lm) → Option (List lm)
 | [], _, a => some a
 | h :: b, i93, a => (if ((i93 : Int) != g) then ((nG 232 a ([h])).bind fun d => (sX g b (i93 + 1) d)) else (sX g b (i93 + 1) a))
def yI (a0 : List lm) (a : Int) : Option (List lm) :=
 sX a a0 0 ([])
def wh (a0 : mI) (h a2 : Int) : Option mI :=
 (((if (h == 0) then ((yI a0.kE.kQ a2).bind fun a => some a) else some a0.kE.kQ) : Option (List lm)).bind fun b => (((if (h == 1) then ((yI a0.Client.kQ a2).bind fun g => some g) else some a0.Client.kQ) : Option (List lm)).bind fun d => some (⟨(⟨a0.kE.Name, b, a0.kE.li⟩ : lW), (⟨a0.Client.Name, d, a0.Client.li⟩ : lW), a0.Formula, a0.oN, a0.mw, a0.mW, a0.nU, a0.ny, a0.Keys⟩ : mI)))
def qF (a0 : mI) : List lm → Nat → (List mj) → Option (List mj)
 | [], _, b => some b
 | i :: d, a, b => ((wh a0 1 (a : Int)).bind fun r505 => ((uG r505).bind fun h => (if (!h) then ((nG 16 b ([(⟨1, (a : Int)⟩ : mj)])).bind fun g => (qF a0 d (a + 1) g)) else (qF a0 d (a + 1) b))))
def qI (a0 : mI) : List lm → Nat → (List mj) → Option (List mj)
 | [], _, a => ((qF a0 a0.Client.kQ 0 a : Option (List mj)).bind fun g => some g)
 | j :: b, i146, a => ((wh a0 0 (i146 : Int)).bind fun h => ((uG h).bind fun i => (if (!i) then ((nG 16 a ([(⟨0, (i146 : Int)⟩ : mj)])).bind fun d => (qI a0 b (i146 + 1) d)) else (qI a0 b (i146 + 1) a))))
def ye (a0 : mI) : Option (List mj) :=
 ((uG a0).bind fun a => (if (!a) then some [] else qI a0 a0.kE.kQ 0 ([])))
def yN (a0 : mI) : Option Int :=
 ((Bs a0.kE a0.Client).bind fun a => some (IntKind.i64.wrap ((a.1.length : Int) + (a.2.1.length : Int))))
def zV (a0 a : lm) : Option Bool :=
 (((if (ng a0.Signed.kF a.Signed.kF) then some (mx (CL a0.Signed.Tag) (CL a.Signed.Tag)) else some false) : Option Bool).bind fun d => (((if d then ((ql lF a0.kJ a.kJ).bind fun b => some b) else some false) : Option Bool).bind fun g => some g))
def tV (l : lW) : List nY → Nat → Option (Bool ⊕ Unit)
 | [], _ => some (Sum.inr ())
 | b :: k, d => ((mP l.li (d : Int)).bind fun a => (((if (!(lx b.kD a.kD)) then some true else ((ql lF b.kJ a.kJ).bind fun h => some (!h))) : Option Bool).bind fun i => (((if i then some true else ((sa b.nf a.nf).bind fun g => some (!g))) : Option Bool).bind fun j => (if j then some (Sum.inl false) else (tV l k (d + 1))))))
def tN (i a0 : lW) : List lm → Nat → Option Bool
 | [], _ => ((tV i a0.li 0 : Option (Bool ⊕ Unit)).bind fun s => match s with | .inl a => some a | .inr _ => some true)
 | g :: b, i215 => ((mP i.kQ (i215 : Int)).bind fun h => ((zV g h).bind fun d => (if (!d) then some false else (tN i a0 b (i215 + 1)))))
def xz (a0 a : lW) : Option Bool :=
 (((if (!(mx a0.Name a.Name)) then some true else some ((a0.kQ.length : Int) != (a.kQ.length : Int))) : Option Bool).bind fun b => (((if b then some true else some ((a0.li.length : Int) != (a.li.length : Int))) : Option Bool).bind fun d => (if d then some false else tN a a0 a0.kQ 0)))
def zW (a0 g : mI) : Option Bool :=
 ((xz a0.kE g.kE).bind fun a => (((if a then ((xz a0.Client g.Client).bind fun b => some b) else some false) : Option Bool).bind fun d => some d))
def qc (k : List mj) (a0 : mI) (b : mj) : List mj → Nat → Option Bool
 | [], _ => ((qt a0).bind fun d => ((yN a0).bind fun g => (((if (d == g) then ((rl a0 b.pD b.pE).bind fun h => ((wh a0 b.pD b.pE).bind fun i => ((zW h i).bind fun j => some j))) else some false) : Option Bool).bind fun n => some n)))
 | l :: a, i172 => ((mP k (i172 : Int)).bind fun m => (if (!(xU l m)) then some false else (qc k a0 b a (i172 + 1))))
def vE (a0 : mI) (h : mj) : Option Bool :=
 (wQ.bind fun d => (if (!d) then some false else ((yX a0).bind fun g => (if (decide (g > 4000)) then some true else ((uF a0).bind fun a => ((ye a0).bind fun b => (if ((a.length : Int) != (b.length : Int)) then some false else qc b a0 h a 0)))))))
end
end Go.Proofs.YtklbhegeiijbjaaGreat
