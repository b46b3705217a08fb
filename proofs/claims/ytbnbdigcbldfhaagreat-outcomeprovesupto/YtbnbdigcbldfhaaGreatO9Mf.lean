/- a part of a proof of OutcomeProves -/
import Derived.Test.YtbnbdigcbldfhaaGreatRtSf
import Derived.Laws.IdiomStrings
import Derived.Laws.MakeOwn
import Derived.Recover
import Derived.LaidEqlPtr
import Derived.Shelf.SlSortCmp.NoneTotal
import Derived.Shelf.SortM.Plain
import Derived.Shelf.SortM.SortNone
import Derived.Shelf.SlIter.Sorted
import Derived.Shelf.SlIter.Nil
import Derived.Test.YtbnbdigcbldfhaaGreatProg
import Derived.KernelRfl
set_option linter.all false
namespace Go.Proofs.YtbnbdigcbldfhaaGreat
open Go.IntKind renaming wrap → wi0
open Go.RowKit
section
variable {α β γ : Type}
inductive qO (Q : α → β → Prop) : List α → List β → Prop
 | nil : qO Q [] []
 | cons {a : α} {b : β} {l : List α} {m : List β} : Q a b → qO Q l m → qO Q (a :: l) (b :: m)
namespace qO
variable {Q Q' : α → β → Prop}
theorem length {l : List α} {m : List β} (h : qO Q l m) : l.length = m.length := by
 induction h with
 | nil => rfl
 | cons _ _ ih => simp [ih]
theorem imp {l : List α} {m : List β} (h : qO Q l m) (c : ∀ a b, Q a b → Q' a b) : qO Q' l m := by
 induction h with
 | nil => exact .nil
 | cons h1 _ ih => exact .cons (c _ _ h1) ih
theorem get {l : List α} {m : List β} (h : qO Q l m) : ∀ {i : Nat} {b : β}, m[i]? = some b → ∃ a, l[i]? = some a ∧ Q a b := by
 induction h with
 | nil => intro i b c; simp at c
 | cons h1 _ ih =>
  intro i b c
  cases i with
  | zero => simp at c; subst c; exact ⟨_, rfl, h1⟩
  | succ i => simpa using ih (by simpa using c)
theorem append {l a : List α} {m c : List β} (h : qO Q l m) (d : qO Q a c) : qO Q (l ++ a) (m ++ c) := by
 induction h with
 | nil => exact d
 | cons h1 _ ih => exact .cons h1 ih
theorem set {l : List α} {m : List β} (h : qO Q l m) {a : α} {b : β} (d : Q a b) : ∀ i : Nat, qO Q (l.set i a) (m.set i b) := by
 induction h with
 | nil => intro i; exact .nil
 | cons h1 c ih =>
  intro i
  cases i with
  | zero => exact .cons d c
  | succ i => exact .cons h1 (ih i)
theorem take {l : List α} {m : List β} (h : qO Q l m) : ∀ i : Nat, qO Q (l.take i) (m.take i) := by
 induction h with
 | nil => intro i; simp; exact .nil
 | cons h1 _ ih =>
  intro i
  cases i with
  | zero => exact .nil
  | succ i => exact .cons h1 (ih i)
theorem drop {l : List α} {m : List β} (h : qO Q l m) : ∀ i : Nat, qO Q (l.drop i) (m.drop i) := by
 induction h with
 | nil => intro i; simp; exact .nil
 | cons h1 a ih =>
  intro i
  cases i with
  | zero => exact .cons h1 a
  | succ i => exact ih i
end qO
theorem EV {P : Nat → β → α → Prop} : ∀ {m : List β} (o : Nat), (∀ (i : Nat) (b : β), m[i]? = some b → ∃ a, P (o + i) b a) → ∃ l : List α, l.length = m.length ∧ ∀ (i : Nat) (b : β), m[i]? = some b → ∃ a, l[i]? = some a ∧ P (o + i) b a
 | [], _, _ => ⟨[], rfl, fun i b h => by simp at h⟩
 | b :: m, o, h => by
  obtain ⟨a, ha⟩ := h 0 b rfl
  obtain ⟨l, h1, g⟩ := EV (m := m) (o + 1) (fun i b j => by
   obtain ⟨a, ha⟩ := h (i + 1) b (by simpa using j)
   exact ⟨a, by rw [show o + 1 + i = o + (i + 1) by omega]; exact ha⟩)
  refine ⟨a :: l, by simp [h1], fun i c d => ?_⟩
  cases i with
  | zero => simp at d; subst d; exact ⟨a, rfl, ha⟩
  | succ i =>
   obtain ⟨x, k, hp⟩ := g i c (by simpa using d)
   exact ⟨x, by simpa using k, by rw [show o + (i + 1) = o + 1 + i by omega]; exact hp⟩
theorem qO.S5 {Q : α → β → Prop} : ∀ {l : List α} {m : List β}, l.length = m.length → (∀ (i : Nat) (a : α) (b : β), l[i]? = some a → m[i]? = some b → Q a b) → qO Q l m
 | [], [], _, _ => .nil
 | [], _ :: _, h, _ => by cases h
 | _ :: _, [], h, _ => by cases h
 | a :: l, b :: m, h, c => .cons (c 0 a b rfl rfl) (qO.S5 (by simpa using h) (fun i x y d g => c (i + 1) x y (by simpa using d) (by simpa using g)))
end
structure Deep {β : Type} (R : rH β) (k : Nat) : Prop where
 mono : JE R
 len : ∀ {μ ys x}, R μ ys x → ys.length = k
 one : ∀ {μ ys x}, R μ ys x → ∀ u ∈ ys, u.oneCell' = true
abbrev tV (k : Nat) := {ys : List Value // ys.length = k ∧ ∀ u ∈ ys, u.oneCell' = true}
def xb {k : Nat} (c : tV k) : List Value := c.1
theorem Dq {k : Nat} (x : tV k) : (xb x).length = k := x.2.1
theorem Zg {k : Nat} (x : tV k) : ∀ u ∈ xb x, u.oneCell' = true := x.2.2
theorem Sl.CK {α : Type} {R : rH α} {k : Nat} {μ : lq} {v : Value} {l : List α} (h : Sl R k μ v l) : v.oneCell' = true := by
 obtain ⟨A, c, rfl, _⟩ := h; rfl
section
variable {β : Type} {Rl : rH β} {k : Nat} {μ μ' : lq} {v : Value} {l : List β}
def Deep.cell (a : Deep Rl k) {ys : List Value} {x : β} (h : Rl μ ys x) : tV k := ⟨ys, a.len h, a.one h⟩
theorem Sl.raw (D : Deep Rl k) (h : Sl Rl k μ v l) : ∃ cl : List (tV k), Sl (Pl xb) k μ v cl ∧ qO (fun c x => Rl μ c.1 x) cl l := by
 obtain ⟨A, c, rfl, h1, t, w⟩ := h
 cases l with
 | nil => exact ⟨[], ⟨A, c, rfl, h1, t, fun h => absurd h (by simp)⟩, .nil⟩
 | cons x0 l =>
  obtain ⟨b, off, cs, T, fr, rfl, E, z⟩ := w (by simp)
  obtain ⟨cl, o, s⟩ := EV (P := fun i x (c : tV k) => Rl μ c.1 x ∧ ∀ j y, c.1[j]? = some y → cs[off + i * k + j]? = some y) (m := x0 :: l) 0 (fun i x q => by
   obtain ⟨ys, _, d, g⟩ := z i x q
   exact ⟨D.cell d, d, by rw [dg]; exact g⟩)
  refine ⟨cl, ⟨_, c, by rw [o], by omega, t, fun _ => ⟨b, off, cs, T, fr, rfl, E, fun i c n => ?_⟩⟩, qO.S5 o (fun i c x n q => ?_)⟩
  ·have G : i < (x0 :: l).length := by rw [← o]; exact (bB.1 n).1
   obtain ⟨u, a, _, g⟩ := s i _ (cj G)
   rw [n] at a; cases a
   exact ⟨c.1, c.2.1, rfl, by rw [dg] at g; exact g⟩
  ·obtain ⟨u, a, d, _⟩ := s i x q
   rw [n] at a; cases a
   exact d
theorem Sl.R0 {cl : List (tV k)} (h : Sl (Pl xb) k μ v cl) (u : lb μ μ') (ha : qO (fun c x => Rl μ' c.1 x) cl l) : Sl Rl k μ' v l := by
 obtain ⟨A, c, rfl, h1, m, n⟩ := h
 have a := ha.length
 refine ⟨A, c, by rw [a], by omega, m, fun y => ?_⟩
 obtain ⟨b, off, cs, T, fr, rfl, q, o⟩ := n (by omega)
 refine ⟨b, off, cs, T, fr, rfl, u _ _ q, fun i x w => ?_⟩
 obtain ⟨c, s, t⟩ := ha.get w
 obtain ⟨ys, d, g, j⟩ := o i c s
 cases g
 exact ⟨xb c, d, t, j⟩
def FE (Rl : rH β) (k : Nat) (μ : lq) (W : World) (v : Value) (l : List β) : Prop := ∃ cl : List (tV k), Sl (Pl xb) k (hp W) v cl ∧ qO (fun c x => Rl μ c.1 x) cl l
theorem FE.sl (c : Deep Rl k) {W : World} (h : Sl Rl k μ v l) (d : lb μ (hp W)) : FE Rl k μ W v l := by
 obtain ⟨cl, h1, a⟩ := h.raw c
 exact ⟨cl, h1.mono (Pl.mono _) d, a⟩
theorem Sl.TI {b m : Nat} {cl : List (tV k)} {cs : Array Value} {e : TypeId} (hm : cl.length = m) (a : m ≤ maxLen) (d : cs.toList = (cl.map xb).flatten) (c : μ b = some (.cells cs e (0, 0))) : Sl (Pl xb) k μ (.slice (some ⟨b, 0, none⟩) m m) cl := by
 subst hm
 refine ⟨_, _, rfl, bD _, a, fun _ => ⟨b, 0, _, _, _, rfl, c, fun i x g => ⟨xb x, Dq x, rfl, fun j y h => ?_⟩⟩⟩
 have := za Dq cl i x g j y h
 rw [← d] at this
 simpa using this
inductive FR (Rl : rH β) (k : Nat) (μ : lq) : List Value → List β → Prop
 | nil : FR Rl k μ [] []
 | cons {ys zs : List Value} {x : β} {l : List β} : Rl μ ys x → FR Rl k μ zs l → FR Rl k μ (ys ++ zs) (x :: l)
theorem FR.cells (d : Deep Rl k) {ys : List Value} (h : FR Rl k μ ys l) : ∃ cl : List (tV k), (cl.map xb).flatten = ys ∧ qO (fun c x => Rl μ c.1 x) cl l := by
 induction h with
 | nil => exact ⟨[], rfl, .nil⟩
 | cons h1 _ ih =>
  obtain ⟨cl, e, a⟩ := ih
  exact ⟨d.cell h1 :: cl, by rw [bE, dv, e]; rfl, .cons h1 a⟩
theorem FE.lit (d : Deep Rl k) {W : World} {b m : Nat} {ys : List Value} {e : TypeId} (h : FR Rl k μ ys l) (hm : l.length = m) (g : m ≤ maxLen) (i : W.heap[b]? = some (.cells ys.toArray e (0, 0))) : FE Rl k μ W (.slice (some ⟨b, 0, none⟩) m m) l := by
 obtain ⟨cl, c, a⟩ := h.cells d
 exact ⟨cl, Sl.TI (by rw [a.length]; exact hm) g c.symm i, a⟩
theorem Sl.imp {R R' : rH β} (h : Sl R k μ v l) (q : ∀ ys x, R μ ys x → R' μ ys x) : Sl R' k μ v l := by
 obtain ⟨A, c, rfl, h1, a, d⟩ := h
 refine ⟨A, c, rfl, h1, a, fun s => ?_⟩
 obtain ⟨b, off, cs, T, fr, rfl, o, g⟩ := d s
 exact ⟨b, off, cs, T, fr, rfl, o, fun i x t => let ⟨ys, j, m, n⟩ := g i x t; ⟨ys, j, q _ _ m, n⟩⟩
theorem HX : ∀ (l : List Nat) (n : Nat), n ∈ l → n ≤ l.foldr max 0
 | [], n, h => by cases h
 | a :: l, n, h => by
  rcases aQ.1 h with rfl | h
  ·exact Nat.le_max_left _ _
  ·exact dj (HX l n h) (Nat.le_max_right _ _)
theorem Sl.YK {R : rH β} {a : Nat → rH β} (h : Sl R k μ v l) (D : ∀ ys x, R μ ys x → ∃ n, a n μ ys x) (up : ∀ n m ys x, n ≤ m → a n μ ys x → a m μ ys x) : ∃ n, Sl (a n) k μ v l := by
 obtain ⟨A, c, rfl, h1, s, w⟩ := h
 by_cases t : 0 < l.length
 ·obtain ⟨b, off, cs, T, fr, rfl, E, z⟩ := w t
  obtain ⟨I, J, u⟩ := EV (P := fun i x (p : Nat × List Value) => p.2.length = k ∧ a p.1 μ p.2 x ∧ ∀ j y, p.2[j]? = some y → cs[off + i * k + j]? = some y) (m := l) 0 (fun i x q => by
   obtain ⟨ys, g, o, d⟩ := z i x q
   obtain ⟨n, G⟩ := D _ _ o
   exact ⟨(n, ys), g, G, by rw [dg]; exact d⟩)
  refine ⟨(I.map (·.1)).foldr max 0, _, c, rfl, h1, s, fun _ => ⟨b, off, cs, T, fr, rfl, E, fun i x q => ?_⟩⟩
  obtain ⟨p, hp, g, o, d⟩ := u i x q
  exact ⟨p.2, g, up _ _ _ _ (HX _ _ (bI.2 ⟨p, iH hp, rfl⟩)) o, by rw [dg] at d; exact d⟩
 ·exact ⟨0, A, c, rfl, h1, s, fun h => absurd h t⟩
theorem vS {α : Type} {enc : α → List Value} {k : Nat} : Deep (vQ enc k) 1 where
 mono := vQ.mono _ _
 len := by rintro _ _ _ ⟨v, rfl, h⟩; rfl
 one := by rintro _ _ _ ⟨v, rfl, h⟩ u hu; rw [aN] at hu; subst hu; exact h.CK
def nn (e : TypeId) (Rl : rH β) (k : Nat) (μ : lq) (v : Value) (l : List β) (B : List (Nat × Obj)) : Prop := ∃ cl : List (tV k), kZ e xb k v cl B ∧ qO (fun c x => Rl μ c.1 x) cl l
variable {e : TypeId} {B : List (Nat × Obj)}
theorem nn.mono (c : Deep Rl k) (h : nn e Rl k μ v l B) (d : lb μ μ') : nn e Rl k μ' v l B := by
 obtain ⟨cl, h1, a⟩ := h
 exact ⟨cl, h1, a.imp (fun _ _ h => c.mono _ _ _ _ d h)⟩
theorem nn.nil (e : TypeId) (Rl : rH β) (k : Nat) (μ : lq) : nn e Rl k μ (.slice none 0 0) [] [] := ⟨[], kZ.nil _ _ _, .nil⟩
theorem nn.lit (d : Deep Rl k) {b m : Nat} {ys : List Value} (h : FR Rl k μ ys l) (hm : l.length = m) (g : m ≤ maxLen) (i : ys.length = m * k) : nn e Rl k μ (.slice (some ⟨b, 0, none⟩) m m) l [(b, .cells ys.toArray e (0, 0))] := by
 obtain ⟨cl, c, a⟩ := h.cells d
 exact ⟨cl, kZ.lit (by rw [a.length]; exact hm) g c.symm (by simpa using i), a⟩
theorem nn.form (h : nn e Rl k μ v l B) : ∃ A c, v = .slice A l.length c := by
 obtain ⟨cl, h1, a⟩ := h
 rw [← a.length]; exact h1.form
theorem nn.len (h : nn e Rl k μ v l B) : l.length ≤ 9223372036854775807 := by
 obtain ⟨cl, h1, a⟩ := h
 rw [← a.length]; exact h1.len
theorem nn.nd (h : nn e Rl k μ v l B) : (B.map (·.1)).Nodup := let ⟨_, h1, _⟩ := h; h1.nd
theorem nn.isNil {n c : Nat} (h : nn e Rl k μ (.slice none n c) l B) : l = [] := by
 obtain ⟨cl, h1, a⟩ := h
 have := a.length
 rw [h1.isNil] at this
 exact bP this.symm
theorem nn.sl (h : nn e Rl k μ v l B) (c : Deep Rl k) (d : lb μ μ') (hm : ∀ b o, (b, o) ∈ B → μ' b = some o) : Sl Rl k μ' v l := by
 obtain ⟨cl, h1, a⟩ := h
 exact Sl.R0 (h1.sl Dq hm) (lb.refl _) (a.imp (fun _ _ h => c.mono _ _ _ _ d h))
end
section
variable {β : Type} {Rl : rH β} {k : Nat} {μ : lq} {v : Value} {l : List β} {e : TypeId} {B : List (Nat × Obj)}
variable {dd : Bool} {F : Nat → Prop} {w W : World} {L : List (Nat × Obj)}
theorem nn.Sx (h : nn e Rl k μ v l B) (c : Deep Rl k) (a : ST dd F w W μ L) (d : ∀ p, p ∈ B → p ∈ L) : Sl Rl k (hp W) v l := h.sl c a.kN (fun _ _ g => a.at_ (d _ g))
theorem FE.row (h : nn e Rl k μ v l B) (a : ST dd F w W μ L) (d : ∀ p, p ∈ B → p ∈ L) : FE Rl k μ W v l := let ⟨cl, h1, c⟩ := h; ⟨cl, h1.Sx Dq a d, c⟩
theorem nn.RQ (h : nn e Rl k μ v l B) (a : ST dd lu w W μ L) (c : ∀ p, p ∈ B → p ∈ L) : Fr w.heap.size v := let ⟨_, h1, _⟩ := h; h1.RQ a c
theorem ST.QQ {Y : List (Nat × Obj)} (g : Deep Rl k) (a : ST dd F w W μ (B ++ Y)) (h : nn e Rl k μ v l B) : ∃ μ', ST dd F w W μ' Y ∧ lb μ μ' ∧ Lo F w μ μ' ∧ Sl Rl k μ' v l := by
 obtain ⟨cl, h1, d⟩ := h
 obtain ⟨μ', c, a2, a4, a3⟩ := ST.Bf a h1 Dq
 exact ⟨μ', c, a2, a4, Sl.R0 a3 (lb.refl _) (d.imp (fun _ _ h => g.mono _ _ _ _ a2 h))⟩
variable {P : Program} {E : Nat → Value} {d : Option Nat} {ty : TypeId} {pos : String} {af : Array Edge} {g : Option (Nat × Bool)}
theorem sE {t e' : TypeId} {x a : Operand} {z : IntKind} {i : Int} {x0 : β} {A : List Value → Prop} (q : ∀ {ys}, Rl μ ys x0 → A ys) (u : P.underlying t = some (.slice e')) (he : ∀ w, (sizeOf e').run P w = .ok k w) (y : kJ E x = v) (n : kJ E a = .int z i) (s : Sl Rl k μ v l) (c : 0 ≤ i) (o : l[i.toNat]? = some x0) :
  ∃ p, (∃ ys, A ys ∧ At μ p ys) ∧ ∀ W, mA P E ⟨d, .indexAddr t x a, ty, pos, af, g⟩ W p W := by
 obtain ⟨p, ys, _, h, j, m⟩ := KO (d := d) (ty := ty) (pos := pos) (af := af) (g := g) u he y n s c o
 exact ⟨p, ⟨ys, q h, j⟩, m⟩
theorem Ci {x : Operand} {t e' : TypeId} (a : P.underlying t = some (.slice e')) (i : kJ E x = v) (h : nn e Rl k μ v l B) : mA P E ⟨d, .call ⟨.builtin .len, #[x], #[t]⟩, ty, pos, af, g⟩ W (.int .i64 l.length) W := by
 obtain ⟨A, c, rfl⟩ := h.form
 exact BR a i
theorem E9 {t e' : TypeId} {x m : Operand} {I : IntKind} {i : Int} {x0 : β} {A : List Value → Prop} (y : ∀ {ys}, Rl μ ys x0 → A ys) (D : P.underlying t = some (.slice e')) (he : ∀ w, (sizeOf e').run P w = .ok k w) (G : kJ E x = v) (s : kJ E m = .int I i) (h : nn e Rl k μ v l B) (n : 0 ≤ i) (u : l[i.toNat]? = some x0) :
  ∃ p, (∃ ys, A ys ∧ At (Cw B) p ys ∧ Fa B k p i.toNat) ∧ ∀ W, mA P E ⟨d, .indexAddr t x m, ty, pos, af, g⟩ W p W := by
 obtain ⟨cl, h1, o⟩ := h
 obtain ⟨c, j, z⟩ := o.get u
 obtain ⟨p, a, q⟩ := mF (d := d) (ty := ty) (pos := pos) (af := af) (g := g) D he G s h1 n j
 exact ⟨p, ⟨c.1, y z, a.at h1 Dq j, a⟩, q⟩
theorem TX {α g : Type} {a : Nat} {l m r : List α} {c d : List g} (h : mM a l m = some r) (h1 : c.length = l.length) (i : d.length = m.length) : mM a c d = some (c ++ d) ∧ r = l ++ m := by
 unfold mM at h ⊢
 rw [h1, i]
 split at h
 ·rename_i j; cases h; rw [aK j]; exact ⟨rfl, rfl⟩
 ·cases h
theorem AU {K : Value → World → Prop} {t : TypeId} {a : Nat} {z vs : Value} {m r : List β} {Y : List (Nat × Obj)} {x y : Operand} {i : TypeInfo} (hD : Deep Rl k) (j : ST dd F w W μ (B ++ Y)) (q : 0 < k) (R : P.underlying t = some (.slice e)) (M : P.info? e = some i) (Z : i.zero = some z) (u : z.cells.size = k) (s : i.size = k) (o : i.bytes = a) (T : kJ E x = v) (U : kJ E y = vs) (J : nn e Rl k μ v l B) (Q : FE Rl k μ W vs m) (L : mM a l m = some r) (h : ∀ W' c R', ST dd F w W' μ (R' ++ Y) → nn e Rl k μ c r R' → K c W') : nN P E ⟨d, .call ⟨.builtin .append, #[x, y], #[t, t]⟩, ty, pos, af, g⟩ W K := by
 obtain ⟨cl, h1, A⟩ := J
 obtain ⟨cm, I, D⟩ := Q
 obtain ⟨n, rfl⟩ := TX L A.length D.length
 exact mD j Dq q Zg R M Z u s o T U h1 I n (fun W' c R' G a2 => h W' c R' G ⟨_, a2, A.append D⟩)
end
end Go.Proofs.YtbnbdigcbldfhaaGreat
namespace Go.Proofs.YtbnbdigcbldfhaaGreat
open Go.IntKind renaming wrap → wi0
open Go.RowKit
def pK (dd : Bool) (P : Program) (f : FuncId) (args : List Value) (w : World) (μ0 : lq) (L0 : List (Nat × Obj)) (K : Value → List (Nat × Obj) → lq → Prop) : Prop :=
 Calls P f args.toArray w fun e a => ∃ v L1 μ1, e = .returned v ∧ sR dd L0 L1 w a ∧ lb μ0 μ1 ∧ Lo (keys L0) w μ0 μ1 ∧ lb μ1 (sS a L1) ∧ K v L1 μ1
theorem pK.mz {dd : Bool} {P : Program} {f : FuncId} {args : List Value} {w : World} {μ0 : lq} {L0 : List (Nat × Obj)} {K : Value → List (Nat × Obj) → lq → Prop} (h : pK true P f args w μ0 L0 K) : pK dd P f args w μ0 L0 K :=
 cD h fun _ _ ⟨v, L1, μ1, h1, a, c⟩ => ⟨v, L1, μ1, h1, a.mz, c⟩
section
variable {dd : Bool} {F : Nat → Prop} {w W W' : World} {μ μ1 : lq} {L L0 L1 L2 : List (Nat × Obj)}
theorem ST.Ux (h : ST dd F w W μ (L0 ++ L)) (g : sR dd L0 L1 W W') (i : Lo (keys L0) W μ μ1) (d : lb μ1 (sS W' L1)) : ST dd F w W' μ1 (L1 ++ L) := by
 have h1 := h.back g
 refine ⟨h1.os, h1.tape, h1.output, h1.drawn, h1.size, h1.ng, fun b o hm => ?_, fun b o a => ?_, h1.nd⟩
 ·have := d b o hm
  unfold sS at this
  split at this
  ·cases this
  ·exact this
 ·obtain ⟨j, m, k⟩ := h1.box b o a
  refine ⟨j, ?_, k⟩
  rcases aR.1 a with a | a
  ·cases hm : μ1 b with
   | none => rfl
   | some x =>
    have := d b x hm
    unfold sS at this
    rw [aK ⟨o, a⟩] at this
    cases this
  ·have c := h.box b o (cy _ a)
   rw [i b (oT c.1) (H9 h.nd a)]
   exact c.2.1
variable {P : Program} {E : Nat → Value} {d : Option Nat} {ty : TypeId} {pos : String} {af : Array Edge} {g : Option (Nat × Bool)}
theorem OC {K : Value → World → Prop} {K' : Value → List (Nat × Obj) → lq → Prop} {f : FuncId} {fv : Operand} {ax : Array Operand} {ats : Array TypeId} {caps : Array Value} {args : List Value} (L0 L2 : List (Nat × Obj)) (a : ST dd F w W μ L) (c : L.Perm (L0 ++ L2)) (y : kJ E fv = .func (.func f) #[] caps) (he : ∀ args w, (callFunc f args).run P w = .ok (.enter f args) w) (ha : ax.map (kJ E) ++ (#[] : Array Value) = args.toArray) (x : E1 L0 W → (L0.map (·.1)).Nodup → lb μ (sS W L0) → (∀ b o, (b, o) ∈ L2 → sS W L0 b = some o) → pK dd P f (args ++ caps.toList) W μ L0 K') (h : ∀ W' v μ' L1, ST dd F w W' μ' (L1 ++ L2) → lb μ μ' → Lo F w μ μ' → K' v L1 μ' → K v W') : nN P E ⟨d, .call ⟨.value fv, ax, ats⟩, ty, pos, af, g⟩ W K := by
 have i : ax.map (kJ E) = args.toArray := by simpa using ha
 refine H7 (args := (args ++ caps.toList).toArray) y he (by rw [i]; simp) (cD (x (a.held c) (a.TE c) (a.Uc c) (a.KT c)) (fun _ W' ⟨v, L1, μ1, h1, k, m, j, n, s⟩ => ⟨v, h1, h W' v μ1 L1 ((a.perm c).Ux k j n) m (fun b u t => j b (cO u a.size) (fun ⟨o, z⟩ => by
  rcases ((a.perm c).box b o (bF _ z)).2.2 with q | q
  ·omega
  ·exact t q)) s⟩))
end
section
variable {P : Program} {E : Nat → Value} {W : World} {d : Option Nat} {ty : TypeId} {pos : String} {af : Array Edge} {g : Option (Nat × Bool)}
 {dd : Bool} {F : Nat → Prop} {w : World} {μ : lq} {L : List (Nat × Obj)}
def FI {α : Type} (a : Nat) (z : α) (n : Int) : Option (List α) := if 0 ≤ n ∧ (a : Int) * n ≤ 140737488355328 ∧ n ≤ (maxLen : Int) then some (List.replicate n.toNat z) else none
theorem KS {α : Type} {enc : α → List Value} {k : Nat} (hk : ∀ x, (enc x).length = k) (a : 0 < k) (z : α) (n : Nat) : (madeCells (enc z).toArray (n * k)).toList = ((List.replicate n z).map enc).flatten := by
 apply List.ext_getElem
 ·rw [pN hk, cR, size_madeCells]; simp
 ·intro i h1 h
  rw [cR, size_madeCells] at h1
  have j : i / k < n := by rw [ic a]; exact h1
  have d : i % k < (enc z).length := by rw [hk]; exact Nat.mod_lt _ a
  have c := za hk (List.replicate n z) (i / k) z (by rw [List.getElem?_replicate, aK j]) (i % k) _ (cj d)
  rw [show i / k * k + i % k = i by rw [Nat.mul_comm]; exact Nat.div_add_mod i k] at c
  rw [cj h] at c
  have g := iP c
  rw [g]
  simp only [madeCells, Array.getElem_toList, Array.getElem_map, Array.getElem_range, cN, hk]
  rw [gH _ _ (by simpa using d)]
  simp
theorem OO {K : Value → World → Prop} {α : Type} {e t : TypeId} {enc : α → List Value} {k a : Nat} {c : Value} {n : Int} {m : IntKind} {z : α} {r : List α} {x y : Operand} {i : TypeInfo} (o : ST dd F w W μ L) (hk : ∀ x, (enc x).length = k) (u : 0 < k) (R : P.underlying t = some (.slice e)) (M : P.info? e = some i) (Y : i.zero = some c) (v : i.size = k) (s : i.bytes = a) (J : c.cells = (enc z).toArray) (T : kJ E x = .int m n) (U : kJ E y = .int m n) (j : FI a z n = some r) (h : ∀ W' A R', ST dd F w W' μ (R' ++ L) → kZ e enc k A r R' → K A W') : nN P E ⟨d, .makeSlice t x y, ty, pos, af, g⟩ W K := by
 unfold FI at j
 split at j
 case isFalse => cases j
 rename_i q
 cases j
 obtain ⟨D, h1, G⟩ := q
 subst v; subst s
 have I : n.toNat ≤ maxLen := by omega
 have Q := run_make (P := P) W t e i c R M Y m m n n D (Int.le_refl _) (by omega) (by simp only [maxLen] at G; omega)
 refine .inl ⟨.slice (some ⟨W.heap.size, 0, none⟩) n.toNat n.toNat, W.alloc (.cells (madeCells c.cells (n.toNat * i.size)) e), ?_, h _ _ [(W.heap.size, .cells (madeCells c.cells (n.toNat * i.size)) e)] (o.alloc _) ?_⟩
 ·show (do pure (.value (← Instr.makeSlice t (kJ E x) (kJ E y))) : Sem Next).run P W = _
  rw [T, U]
  simp only [cd, Q, bN, db]
 ·exact kZ.lit (by rw [ie]) I (by rw [J]; exact KS hk u z _) (by rw [size_madeCells])
end
section
variable {P : Program} {E : Nat → Value} {W : World} {d : Option Nat} {ty : TypeId} {pos : String} {af : Array Edge} {g : Option (Nat × Bool)}
theorem X2 {op : BinOp} {tx tv : TypeId} {x y : Operand} {k : IntKind} {a b : Int} {v : Value} (i : kJ E x = .int k a) (j : kJ E y = .int k b) (h : (match op with | .and => some (BitVec.ofInt k.bits a &&& BitVec.ofInt k.bits b) | .or => some (BitVec.ofInt k.bits a ||| BitVec.ofInt k.bits b) | .xor => some (BitVec.ofInt k.bits a ^^^ BitVec.ofInt k.bits b) | _ => none).map (fun (c : BitVec k.bits) => Value.int k (k.wrap c.toNat)) = some v) :
  mA P E ⟨d, .binOp op tx x y tv, ty, pos, af, g⟩ W v W := by
 show (do let r ← (do eqGuard op tx x y (kJ E x) (kJ E y); binOp op tx (kJ E x) (kJ E y)); pure (.value r) : Sem Next).run P W = _
 rw [i, j]
 cases op <;> simp at h <;> subst h <;> simp [eqGuard, binOp, Op.intBits]
theorem Qs {tx tv : TypeId} {x y : Operand} {k k' : IntKind} {a b : Int} (c : kJ E x = .int k a) (h : kJ E y = .int k' b) (i : 0 ≤ b) :
  mA P E ⟨d, .binOp .shl tx x y tv, ty, pos, af, g⟩ W (.int k (k.wrap (a * 2 ^ min b.toNat k.bits))) W := by
 show (do let r ← (do eqGuard .shl tx x y (kJ E x) (kJ E y); binOp .shl tx (kJ E x) (kJ E y)); pure (.value r) : Sem Next).run P W = _
 rw [c, h]
 simp [eqGuard, binOp, Op.shift, show ¬ b < 0 by omega]
end
theorem sa.CK {κ γ : Type} {kenc : κ → Value} {Q : Value → γ → List (Nat × Obj) → Prop} {μ : lq} {v : Value} {l : List (κ × γ)} (h : sa kenc Q μ v l) : v.oneCell' = true := by
 obtain ⟨a, R, h, _⟩ := h
 obtain ⟨m, rfl⟩ := h.form
 rfl
theorem xp.CK {κ β : Type} {kenc : κ → Value} {vf : β → Value} {μ : lq} {v : Value} {l : List (κ × β)} (h : xp kenc vf μ v l) : v.oneCell' = true := by
 obtain ⟨m, rfl⟩ := h.form
 rfl
section
variable {dd : Bool}
def OE {α : Type} (R : rH α) : lq → List Value → α → Prop := fun μ vs x => ∃ ys, vs = [.agg ys.toArray] ∧ R μ ys x
theorem OE.mk {α : Type} {R : rH α} {k : Nat} {μ μ' : lq} {ys : List Value} {x : α} (a : Deep R k) (h : R μ ys x) (c : lb μ μ') : OE R μ' [.agg ys.toArray] x := ⟨ys, rfl, a.mono _ _ _ _ c h⟩
def Lx {α β : Type} (P : Program) (fv : Value) (μ : lq) (a : lq → List Value → α → Prop) (c : β → Value) (pm : α → Option β) : Prop :=
 ∃ f first caps, fv = .func (.func f) first caps ∧ (∀ args w, (callFunc f args).run P w = .ok (.enter f args) w) ∧ ∀ W x vs r, lb μ (hp W) → a (hp W) vs x → pm x = some r → lg false P f (first.toList ++ (vs ++ caps.toList)) W (c r)
theorem Lx.form {α β : Type} {P : Program} {fv : Value} {μ : lq} {c : lq → List Value → α → Prop} {d : β → Value} {pm : α → Option β} (h : Lx P fv μ c d pm) : ∃ f a b, fv = .func f a b := let ⟨f, a, b, h, _⟩ := h; ⟨_, a, b, h⟩
end
section
variable {P : Program} {W : World} {E : Nat → Value} {d : Option Nat} {ty : TypeId} {pos : String} {af : Array Edge} {g : Option (Nat × Bool)} {F : Nat → Prop} {w : World} {μ μ0 : lq} {L : List (Nat × Obj)}
theorem Lx.mono {α β : Type} {fv : Value} {a : lq → List Value → α → Prop} {c : β → Value} {pm : α → Option β} (h : Lx P fv μ a c pm) (i : lb μ μ0) : Lx P fv μ0 a c pm := by
 obtain ⟨f, first, caps, h1, d, g⟩ := h
 exact ⟨f, first, caps, h1, d, fun W x vs r h => g W x vs r (i.trans h)⟩
theorem Yr {α β : Type} {K : Value → World → Prop} {fv : Value} {j : lq → List Value → α → Prop} {k : β → Value} {pm : α → Option β} {c : Operand} {ax : Array Operand} {ats : Array TypeId} (x : α) {vs : List Value} {r : β} (a : ST false F w W μ L) (t : Lx P fv μ0 j k pm) (v : lb μ0 μ) (s : j (hp W) vs x) (u : kJ E c = fv) (ha : ax.map (kJ E) ++ (#[] : Array Value) = vs.toArray) (hm : pm x = some r) (h : ∀ W', ST false F w W' μ L → K (k r) W') : nN P E ⟨d, .call ⟨.value c, ax, ats⟩, ty, pos, af, g⟩ W K := by
 obtain ⟨f, first, caps, rfl, m, n⟩ := t
 have i : ax.map (kJ E) = vs.toArray := by simpa using ha
 refine .inr (.inr ⟨f, (first.toList ++ (vs ++ caps.toList)).toArray, ?_, cD (n W x vs r (v.trans a.kN) s hm) (fun _ _ ⟨o, q⟩ => ⟨_, o, h _ (a.Ia q)⟩)⟩)
 show (do let d ← resolve (kJ E) ⟨.value c, ax, ats⟩ ty; invoke d.target d.args : Sem Next).run P W = _
 simp only [resolve, u, Deferred.ofValue, cd, db, bN, invoke, i, m]
 congr 2
 simp
end
section
variable {dd : Bool}
variable {β : Type} {Rl : rH β} {k : Nat} {μ : lq} {v : Value} {l : List β} {e : TypeId} {B : List (Nat × Obj)}
variable {F : Nat → Prop} {w W : World} {L : List (Nat × Obj)}
variable {P : Program} {E : Nat → Value} {d : Option Nat} {ty : TypeId} {pos : String} {af : Array Edge} {g : Option (Nat × Bool)}
theorem Nw {α : Type} {enc : α → List Value} (hk : ∀ x, (enc x).length = k) (c : 0 < k) (d : ∀ x y, enc x = enc y → x = y) : ∀ {l m : List α}, (l.map enc).flatten = (m.map enc).flatten → l = m
 | [], [], _ => rfl
 | [], b :: m, h => by
  have := aU List.length h
  simp only [fp, jX, bX, bE, dv, aI, hk] at this
  omega
 | a :: l, [], h => by
  have := aU List.length h
  simp only [fp, jX, bX, bE, dv, aI, hk] at this
  omega
 | a :: l, b :: m, h => by
  simp only [bE, dv] at h
  obtain ⟨h1, g⟩ := List.append_inj h (by rw [hk, hk])
  rw [d _ _ h1, Nw hk c d g]
theorem Zv (x y : tV k) (h : xb x = xb y) : x = y := Subtype.ext h
theorem kZ.pre {v1 : Value} {cl a : List (tV k)} (g : 0 < k) (h : kZ e xb k v cl B) (h1 : kZ e xb k v1 a B) (d : a.length ≤ cl.length) : a = cl.take a.length := by
 rcases h with ⟨rfl, rfl, rfl⟩ | ⟨t, cap, c, rfl, rfl, u, w, x, q⟩
 ·simp at d; simp [d]
 ·rcases h1 with ⟨_, _, h⟩ | ⟨g1, i, j, rfl, m, s, a2, a3, a4⟩
  ·cases h
  ·cases m
   refine Nw Dq g Zv ?_
   rw [← a4]
   have hle : a.length * k ≤ cl.length * k := cn _ d
   have : c.toList.take (a.length * k) = (c.toList.take (cl.length * k)).take (a.length * k) := by rw [eK, cP hle]
   rw [this, q]
   have n : (cl.map xb).flatten = ((cl.take a.length).map xb).flatten ++ ((cl.drop a.length).map xb).flatten := by rw [← fY, ← cq, fE]
   have o : ((cl.take a.length).map xb).flatten.length = a.length * k := by rw [pN Dq, cz, cP d]
   rw [n, ← o, gF]
theorem qO.replicate {α β : Type} {Q : α → β → Prop} {a : α} {b : β} (h : Q a b) : ∀ n, qO Q (List.replicate n a) (List.replicate n b)
 | 0 => .nil
 | n + 1 => .cons h (qO.replicate h n)
theorem QJ {t e' : TypeId} {x ih : Operand} {y : IntKind} {i : Int} (s : P.underlying t = some (.slice e')) (he : ∀ w, (sizeOf e').run P w = .ok k w) (u : kJ E x = v) (o : kJ E ih = .int y i) (h : nn e Rl k μ v l B) (j : 0 ≤ i) (q : i ≤ l.length) :
  ∃ a, nn e Rl k μ a (l.take i.toNat) B ∧ ∀ W, mA P E ⟨d, .slice t x none (some ih) none, ty, pos, af, g⟩ W a W := by
 obtain ⟨cl, h1, c⟩ := h
 obtain ⟨a, m, n⟩ := um (d := d) (ty := ty) (pos := pos) (af := af) (g := g) s he u o h1 Dq j (by rw [c.length]; exact q)
 exact ⟨a, ⟨_, m, c.take _⟩, n⟩
theorem nn.Tl {c d : List β} {i : Value} {R2 : List (Nat × Obj)} (a : 0 < k) (j : nn e Rl k μ v l B) (h1 : nn e Rl k μ i d B) (m : nn e Rl k μ v c R2) (n : d.length ≤ c.length) : nn e Rl k μ i (c.take d.length) R2 := by
 obtain ⟨cl, o, t⟩ := j
 obtain ⟨c1, q, g⟩ := h1
 obtain ⟨c2, s, h⟩ := m
 refine ⟨_, kZ.Tl a Dq o q s (by rw [g.length, h.length]; exact n), ?_⟩
 rw [g.length]
 exact h.take _
end
section
variable {P : Program} {W : World} {E : Nat → Value} {d : Option Nat} {ty : TypeId} {pos : String} {af : Array Edge} {g : Option (Nat × Bool)}
theorem S0 {tx tv : TypeId} {x y : Operand} {fv : Value} {s u : Array TypeId} {bb : Bool} (i : P.underlying tx = some (.func s u bb)) (h : ∃ f a b, fv = .func f a b) (j : kJ E x = fv) (k : kJ E y = .nilFunc) :
  mA P E ⟨d, .binOp .neq tx x y tv, ty, pos, af, g⟩ W (.bool true) W := by
 obtain ⟨f, a, b, rfl⟩ := h
 show (do let r ← (do eqGuard .neq tx x y (kJ E x) (kJ E y); binOp .neq tx (kJ E x) (kJ E y)); pure (.value r) : Sem Next).run P W = _
 rw [j, k]
 have c := AH 9999 i f a b W
 simp [eqGuard, binOp, Op.equal, show Op.maxDepth = 9999 + 1 from rfl, c]
end
section
variable {P : Program} {n : Nat} {Q : ov} {E : Nat → Value} {W : World} {ops : Array Oper} {S : Array Bool → World → Prop} {fuel : Nat} {listed : Array Bool}
def UZ (P : Program) (n : Nat) (ops : Array Oper) (Q : ov) (S : Array Bool → World → Prop) (fuel : Nat) (listed : Array Bool) (E : Nat → Value) (W : World) (k : Nat) : Prop :=
 ∃ q e, ops[k]? = some q ∧ mG n ops E q ∧ q.dst = some e ∧ e < n ∧ nN P E q W fun v W' => S (listed.setIfInBounds k true) W' ∧ PX P n ops Q S fuel (listed.setIfInBounds k true) (nE E e v) W'
theorem XU (o : Region.ready .any ops listed ≠ []) (h : ∀ k ∈ Region.ready .any ops listed, UZ P n ops Q S fuel listed E W k) : PX P n ops Q S (fuel + 1) listed E W := fun d a ha => by
 refine ⟨fun m => (o m).elim, fun k hk => ?_⟩
 obtain ⟨q, e, h1, hw, g, i, h⟩ := h k hk
 unfold wpOp
 simp only [h1]
 rw [aK (hw.of ha)]
 refine .inl ?_
 unfold Oper.wp
 rw [ha.eval]
 rcases h with ⟨v, W', h1, c⟩ | ⟨W', h1, c⟩ | ⟨f, args, h1, c⟩
 ·rw [h1, dN]; exact ⟨c.1, by rw [g]; exact c.2 (d.set hk) _ (ha.put i v)⟩
 ·rw [h1, eJ]; exact ⟨c.1, by rw [g]; exact c.2 (d.set hk) _ (ha.put i _)⟩
 ·rw [h1, dO]
  refine cD c ?_
  rintro e s ⟨v, rfl, j⟩
  exact ⟨j.1, by simp only [g]; exact j.2 (d.set hk) _ (ha.put i v)⟩
theorem Ut (i j m : Nat) (a : Region.ready .any ops listed = [i, j, m]) (h1 : UZ P n ops Q S fuel listed E W i) (c : UZ P n ops Q S fuel listed E W j) (d : UZ P n ops Q S fuel listed E W m) : PX P n ops Q S (fuel + 1) listed E W :=
 XU (by rw [a]; simp) (by rw [a]; intro k hk; simp only [aQ, da, fh] at hk; rcases hk with rfl | rfl | rfl <;> assumption)
end
theorem bS {α β : Type} {m : Option α} {f : α → Option β} {r : β} {G : Prop} (h : m.bind f = some r) (k : ∀ x, m = some x → f x = some r → G) : G :=
 let ⟨x, a, b⟩ := bind_some h
 k x a b
theorem sj {α : Type} {a b : α} (h : some a = some b) : a = b := iP h
theorem bC {α : Type} {b : Bool} {x y r : α} {G : Prop} (h : (if b = true then x else y) = r) (a : b = true → x = r → G) (k2 : b = false → y = r → G) : G := by
 rcases Rx b with e | e
 ·exact a e (Xp e h)
 ·exact k2 e (Xs e h)
theorem cB {a b : Bool} (h : a = b) : Value.bool a = Value.bool b := aU Value.bool h
theorem nb {a b : Nat} (h : Nat.ble a b = true := by exact rfl) : a ≤ b := Nat.le_of_ble_eq_true h
def Y1 : Nat → Nat → List Bool
 | 0, _ => []
 | n + 1, m => (m % 2 == 1) :: Y1 n (m / 2)
def bm (n m : Nat) : Array Bool := (Y1 n m).toArray
section
variable {P : Program} {n : Nat} {Q : ov} {E : Nat → Value} {W : World}
theorem CI {α : Type} {co : Operand} {b : Bool} {x y : Code} {A B r : α} (hm : (if b = true then A else B) = r) (a : kJ E co = .bool b) (d : b = true → A = r → CW P n x Q E W) (c : b = false → B = r → CW P n y Q E W) : CW P n (.cond co x y) Q E W :=
 Q2 a (fun e => d e (Xp e hm)) (fun e => c e (Xs e hm))
theorem CJ {c ρ : Type} {m : Option c} {k : c → Option ρ} {r : ρ} {x : Code} {K : (Nat → Value) → World → Prop} (hm : m.bind k = some r) (I : c → (Nat → Value) → World → Prop) (h1 : ∀ s, m = some s → CW P n x (qM (I s) Q) E W) (d : ∀ s E W, I s E W → k s = some r → K E W) : CW P n x (qM K Q) E W :=
 let ⟨s, a, b⟩ := bind_some hm
 SG (I s) (h1 s a) (fun E W h => d s E W h b)
theorem GJ {d ρ c : Type} {m : Option (c ⊕ d)} {k : c ⊕ d → Option ρ} {r : ρ} {x : Code} {K : (Nat → Value) → World → Prop} (hm : m.bind k = some r) (I : d → (Nat → Value) → World → Prop) (h1 : ∀ s, m = some s → k s = some r → CW P n x (qM (fun E W => ∃ t, s = .inr t ∧ I t E W) Q) E W) (g : ∀ s E W, I s E W → k (.inr s) = some r → K E W) : CW P n x (qM K Q) E W :=
 let ⟨s, a, b⟩ := bind_some hm
 SG (fun E W => ∃ t, s = .inr t ∧ I t E W) (h1 s a b) (fun E W ⟨t, e, h⟩ => g t E W h (by subst e; exact b))
theorem LJ {c ρ : Type} {m : Option c} {k : c → Option ρ} {r : ρ} {ops : Array Oper} {rest : List Oper} (hm : m.bind k = some r) (I : c → (Nat → Value) → World → Prop) (j : Nat) (d : ∀ s E W, I s E W → k s = some r → LW P n ops Q (rest.drop j) E W) (h1 : ∀ s, m = some s → (∀ E W, I s E W → LW P n ops Q (rest.drop j) E W) → LW P n ops Q rest E W) : LW P n ops Q rest E W :=
 let ⟨s, a, b⟩ := bind_some hm
 h1 s a (fun E W h => d s E W h b)
theorem PJ {c ρ : Type} {m : Option c} {k : c → Option ρ} {r : ρ} {ops : Array Oper} {S : Array Bool → World → Prop} {fuel : Nat} {listed : Array Bool} (hm : m.bind k = some r) (I : c → (Nat → Value) → World → Prop) (g : Array Bool) (d : Nat) (i : ∀ s E W, I s E W → k s = some r → PX P n ops Q S d g E W) (h1 : ∀ s, m = some s → (∀ E W, I s E W → PX P n ops Q S d g E W) → PX P n ops Q S fuel listed E W) : PX P n ops Q S fuel listed E W :=
 let ⟨s, a, b⟩ := bind_some hm
 h1 s a (fun E W h => i s E W h b)
end
section
variable {dd : Bool} {P : Program} {fn : Func} {E : Nat → Value} {W w : World} {μ : lq} {L : List (Nat × Obj)}
theorem rP {t : Tmp} {v : Value} (a : ST dd lu w W μ L) (c : fn.results = #[.tmp t] := by exact rfl) (d : E t = v := by exact rfl) : zU P fn (fun e W' => e = .returned v ∧ Ex dd w W') .ret E W := lQ c d ⟨rfl, a.ex⟩
end
theorem ST.HM {dd : Bool} {F : Nat → Prop} {w W : World} {μ : lq} {x : Nat × Obj} {L : List (Nat × Obj)} (h : ST dd F w W μ (x :: L)) : ST dd F w W μ ([x] ++ L) := h
theorem ST.Xq {dd : Bool} {F : Nat → Prop} {w W : World} {μ : lq} {L : List (Nat × Obj)} (h : ST dd F w W μ L) : ST dd F w W μ ([] ++ L) := h
theorem aL {E : Nat → Value} {ax : Array Operand} {l : List Value} (h : ax.toList.map (kJ E) = l) : ax.map (kJ E) ++ (#[] : Array Value) = l.toArray := by subst h; apply Array.ext'; simp
section
variable {dd : Bool}
variable {P : Program} {E : Nat → Value} {W : World} {d : Option Nat} {ty : TypeId} {pos : String} {af : Array Edge} {g : Option (Nat × Bool)}
 {F : Nat → Prop} {w : World} {μ : lq} {L : List (Nat × Obj)}
variable {f : FuncId} {fv : Operand} {ax : Array Operand} {ats : Array TypeId} {args : List Value} {v : Value} {K : Value → World → Prop}
theorem Eg (a : ST dd F w W μ L) (he : ∀ args w, (callFunc f args).run P w = .ok (.enter f args) w) (c : lg dd P f args W v) (h : ∀ W', ST dd F w W' μ L → K v W') (i : kJ E fv = .func (.func f) #[] #[] := by exact rfl) (ha : ax.toList.map (kJ E) = args := by exact rfl) : nN P E ⟨d, .call ⟨.value fv, ax, ats⟩, ty, pos, af, g⟩ W K := PR a i he (aL ha) c h
theorem qu {α : Type} {e : TypeId} {enc : α → List Value} {k : Nat} {l : List α} {Y : List (Nat × Obj)} (a : ST dd F w W μ Y) (he : ∀ args w, (callFunc f args).run P w = .ok (.enter f args) w) (c : lT dd P f args W e enc k l) (h : ∀ W' v μ' R, ST dd F w W' μ' (R ++ Y) → lb μ μ' → Lo F w μ μ' → kZ e enc k v l R → K v W') (i : kJ E fv = .func (.func f) #[] #[] := by exact rfl) (ha : ax.toList.map (kJ E) = args := by exact rfl) : nN P E ⟨d, .call ⟨.value fv, ax, ats⟩, ty, pos, af, g⟩ W K := Qu _ a i he (aL ha) c h
theorem IG {K' : Value → List (Nat × Obj) → World → Prop} {L0 L2 : List (Nat × Obj)} (i : ST dd F w W μ L) (j : L.Perm (L0 ++ L2)) (he : ∀ args w, (callFunc f args).run P w = .ok (.enter f args) w) (k : E1 L0 W → (L0.map (·.1)).Nodup → lb μ (sS W L0) → (∀ b o, (b, o) ∈ L2 → sS W L0 b = some o) → mn dd P f args W L0 K') (h : ∀ W' v μ' L1, ST dd F w W' μ' (L1 ++ L2) → lb μ μ' → Lo F w μ μ' → (∀ b, W.heap.size ≤ b → ∀ o, sS W' L1 b = some o → μ' b = some o) → K' v L1 W' → K v W') (m : kJ E fv = .func (.func f) #[] #[] := by exact rfl) (ha : ax.toList.map (kJ E) = args := by exact rfl) : nN P E ⟨d, .call ⟨.value fv, ax, ats⟩, ty, pos, af, g⟩ W K :=
 Vx L0 L2 i j m he (aL ha) (fun a b c d => by have := k a b c d; simpa using this) h
theorem SD {K' : Value → List (Nat × Obj) → lq → Prop} {L0 L2 : List (Nat × Obj)} (i : ST dd F w W μ L) (j : L.Perm (L0 ++ L2)) (he : ∀ args w, (callFunc f args).run P w = .ok (.enter f args) w) (k : E1 L0 W → (L0.map (·.1)).Nodup → lb μ (sS W L0) → (∀ b o, (b, o) ∈ L2 → sS W L0 b = some o) → pK dd P f args W μ L0 K') (h : ∀ W' v μ' L1, ST dd F w W' μ' (L1 ++ L2) → lb μ μ' → Lo F w μ μ' → K' v L1 μ' → K v W') (m : kJ E fv = .func (.func f) #[] #[] := by exact rfl) (ha : ax.toList.map (kJ E) = args := by exact rfl) : nN P E ⟨d, .call ⟨.value fv, ax, ats⟩, ty, pos, af, g⟩ W K :=
 OC L0 L2 i j m he (aL ha) (fun a b c d => by have := k a b c d; simpa using this) h
end
section
variable {E : Nat → Value} {x1 x2 x3 x4 x5 x6 x7 x8 : Operand} {v1 v2 v3 v4 v5 v6 v7 v8 : Value}
theorem ZP (h1 : kJ E x1 = v1) : [x1].map (kJ E) = [v1] := by rw [← h1]; rfl
end
def ZJ (R : List (Nat × Obj)) (k : Nat) (p : Value) (i a : Nat) : Prop := ∃ g o, R = [(g, o)] ∧ p = .pointer (some ⟨g, i * k + a, none⟩)
theorem Fa.f {R : List (Nat × Obj)} {k : Nat} {p : Value} {i : Nat} (h : Fa R k p i) : ZJ R k p i 0 := h
section
variable {P : Program} {E : Nat → Value} {W : World} {d : Option Nat} {ty : TypeId} {pos : String} {af : Array Edge} {g : Option (Nat × Bool)}
 {dd : Bool} {F : Nat → Prop} {w : World} {μ : lq} {L : List (Nat × Obj)} {α : Type} {e' : TypeId} {enc : α → List Value} {k : Nat} {v : Value} {l : List α} {R : List (Nat × Obj)}
theorem kZ.put (h : kZ e' enc k v l R) (hk : ∀ x, (enc x).length = k) {p : Value} {i : Nat} (hp : Fa R k p i) {x0 : α} (t : l[i]? = some x0) (x1 : α) :
  ∃ g a, R = [(g, .cells a e' (0, 0))] ∧ p = .pointer (some ⟨g, i * k, none⟩) ∧ i * k + k ≤ a.size ∧ (∀ j y, (enc x0)[j]? = some y → a[i * k + j]? = some y) ∧
   kZ e' enc k v (l.set i x1) [(g, .cells (a.toList.take (i * k) ++ enc x1 ++ a.toList.drop (i * k + k)).toArray e' (0, 0))] := by
 have n : i < l.length := (bB.1 t).1
 obtain ⟨q, a, cap, rfl, rfl, s, z, m, A, rfl, D⟩ := Dm h hk hp t
 have hle : i * k + k ≤ cap * k := by
  have : (i + 1) * k ≤ cap * k := cn _ (by omega)
  rwa [cC, ko] at this
 have c : i * k + k ≤ l.length * k := by
  have : (i + 1) * k ≤ l.length * k := cn _ (by omega)
  rwa [cC, ko] at this
 have hlen : l.length * k ≤ cap * k := cn _ s
 refine ⟨q, a, rfl, rfl, by rw [m]; exact hle, D, .inr ⟨q, cap, _, by simp, rfl, by simpa using s, z, ?_, ?_⟩⟩
 ·show ((a.toList.take (i * k) ++ (enc x1) ++ a.toList.drop (i * k + k)).toArray).size = _
  have d : a.toList.length = cap * k := by simpa using m
  rw [cN, aI, aI, cz, dt, hk, d, cP (by omega)]; omega
 ·rw [iM, IR hk l i x1 n, ← A]
  have u : (a.toList.take (l.length * k)).take (i * k) = a.toList.take (i * k) := by rw [eK]; congr 1; omega
  have w : (a.toList.take (l.length * k)).drop (i * k + k) = (a.toList.drop (i * k + k)).take (l.length * k - (i * k + k)) := by rw [gA]
  rw [u, w]
  show List.take (l.length * k) (a.toList.take (i * k) ++ enc x1 ++ a.toList.drop (i * k + k)) = _
  have d : a.toList.length = cap * k := by simpa using m
  have o : (a.toList.take (i * k) ++ enc x1).length = i * k + k := by rw [aI, cz, hk, d, cP (by omega)]
  rw [eF, cV (by rw [o]; exact c), o]
end
theorem oc {v : Value} (h : v.cells.toList.all Value.oneCell' = true := by exact rfl) : ∀ u ∈ v.cells.toList, u.oneCell' = true := dE.1 h
theorem dc {p : Prop} [Decidable p] (h : p := by decide) : p := h
theorem kr {p : Prop} (h : p := by kernel_rfl) : p := h
theorem br {α : Sort _} {a b : α} (h : a = b := by rfl) : a = b := h
abbrev LO := List (Nat × Obj)
abbrev Ob (c : Array Value) (t : TypeId) : Obj := .cells c t (0, 0)
abbrev Ol (c : List Value) (t : TypeId) : Obj := .cells c.toArray t (0, 0)
theorem mJ {P : Program} {t e : TypeId} {m k : Nat} {z : Value} {a : Array (Nat × Value)} {cs : Array Value} (j : P.underlying t = some (.slice e)) (i : ∀ w, (sizeOf e).run P w = .ok k w) (o : ∀ w, (zeroValue e).run P w = .ok z w) (hm : m * k ≤ 16777216 := by decide) (g : a.toList = (a.toList.map (·.2)).zipIdx.map (fun p => (p.2, p.1)) := by exact rfl) (n : (a.toList.map (·.2)).all (fun v => v.cells.size == k) = true := by exact rfl) (d : (a.toList.map (·.2)).length = m := by exact rfl) (c : ((a.toList.map (·.2)).flatMap (fun v => v.cells.toList)).toArray = cs := by exact rfl) (W : World) :
  (Instr.buildSlice t m a).run P W = .ok (.slice (some ⟨W.heap.size, 0, none⟩) m m) (W.alloc (.cells cs e (0, 0))) :=
 zK _ j i o hm g (fun v h => eq_of_beq (dE.1 n v h)) d c W
section
variable {dd : Bool} {P : Program} {fn : Func} {E : Nat → Value} {W w : World} {μ : lq} {L L0 : List (Nat × Obj)}
theorem rQ {α : Type} {f : α → Value} {a r : α} {t : Tmp} (hm : some a = some r) (c : ST dd lu w W μ L) (d : fn.results = #[.tmp t] := by exact rfl) (g : E t = f a := by exact rfl) : zU P fn (fun e W' => e = .returned (f r) ∧ Ex dd w W') .ret E W := by
 obtain rfl := sj hm; exact lQ d g ⟨rfl, c.ex⟩
theorem cG (n : Nat) {f : FuncId} {c : Code} {args : List Value} {v : Value} (a : P.funcs[f]? = some fn) (d : fn.body = some c) (h : ST dd lu w w (hp w) [] → CW P n c (zU P fn (fun e j => e = .returned v ∧ Ex dd w j)) (zk args) w) (i : fn.ntmps = n := by exact rfl) (g : args.length ≤ n := by exact nb) : lg dd P f args w v := B0 a d i g (h (ST.start w))
theorem tT {K : Value → List (Nat × Obj) → World → Prop} (n : Nat) {f : FuncId} {c : Code} {args : List Value} (a : P.funcs[f]? = some fn) (g : fn.body = some c) (h : ST dd lu w w (hp w) [] → CW P n c (zU P fn (fun e d => ∃ v L1, e = .returned v ∧ sR dd [] L1 w d ∧ K v L1 d)) (zk args) w) (j : fn.ntmps = n := by exact rfl) (i : args.length ≤ n := by exact nb) : mn dd P f args w [] K := B0 a g j i (h (ST.start w))
theorem zX {K : Value → List (Nat × Obj) → World → Prop} (g : pY μ L0 w) (n : Nat) {f : FuncId} {c : Code} {args : List Value} (a : P.funcs[f]? = some fn) (i : fn.body = some c) (h : ST dd (keys L0) w w μ L0 → CW P n c (zU P fn (fun e d => ∃ v L1, e = .returned v ∧ sR dd L0 L1 w d ∧ K v L1 d)) (zk args) w) (k : fn.ntmps = n := by exact rfl) (j : args.length ≤ n := by exact nb) : mn dd P f args w L0 K := B0 a i k j (h (ST.xD g))
theorem RY {K : Value → List (Nat × Obj) → lq → Prop} (g : pY μ L0 w) (n : Nat) {f : FuncId} {c : Code} {args : List Value} (a : P.funcs[f]? = some fn) (i : fn.body = some c) (h : ST dd (keys L0) w w μ L0 → CW P n c (zU P fn (fun e d => ∃ v L1 μ1, e = .returned v ∧ sR dd L0 L1 w d ∧ lb μ μ1 ∧ Lo (keys L0) w μ μ1 ∧ lb μ1 (sS d L1) ∧ K v L1 μ1)) (zk args) w) (k : fn.ntmps = n := by exact rfl) (j : args.length ≤ n := by exact nb) : pK dd P f args w μ L0 K := B0 a i k j (h (ST.xD g))
end
section
variable {dd : Bool}
variable {P : Program} {E : Nat → Value} {W : World} {d : Option Nat} {ty : TypeId} {pos : String} {af : Array Edge} {g : Option (Nat × Bool)}
 {F : Nat → Prop} {w : World} {μ : lq} {L : List (Nat × Obj)}
variable {f : FuncId} {fv : Operand} {ax : Array Operand} {ats : Array TypeId} {args : List Value} {v : Value} {K : Value → World → Prop}
theorem eM {K' : Value → List (Nat × Obj) → World → Prop} {L0 L2 : List (Nat × Obj)} (i : ST dd F w W μ L) (j : L.Perm (L0 ++ L2)) (he : ∀ args w, (callFunc f args).run P w = .ok (.enter f args) w) (k : pY (sS W L0) L0 W → lb μ (sS W L0) → mn dd P f args W L0 K') (h : ∀ W' v μ' L1, ST dd F w W' μ' (L1 ++ L2) → lb μ μ' → Lo F w μ μ' → (∀ b, W.heap.size ≤ b → ∀ o, sS W' L1 b = some o → μ' b = some o) → K' v L1 W' → K v W') (m : kJ E fv = .func (.func f) #[] #[] := by exact rfl) (ha : ax.toList.map (kJ E) = args := by exact rfl) : nN P E ⟨d, .call ⟨.value fv, ax, ats⟩, ty, pos, af, g⟩ W K :=
 IG i j he (fun a b c _ => k ⟨a, b, lb.refl _⟩ c) h m ha
theorem eD {K' : Value → List (Nat × Obj) → lq → Prop} {L0 L2 : List (Nat × Obj)} (i : ST dd F w W μ L) (j : L.Perm (L0 ++ L2)) (he : ∀ args w, (callFunc f args).run P w = .ok (.enter f args) w) (k : pY μ L0 W → pK dd P f args W μ L0 K') (h : ∀ W' v μ' L1, ST dd F w W' μ' (L1 ++ L2) → lb μ μ' → Lo F w μ μ' → K' v L1 μ' → K v W') (m : kJ E fv = .func (.func f) #[] #[] := by exact rfl) (ha : ax.toList.map (kJ E) = args := by exact rfl) : nN P E ⟨d, .call ⟨.value fv, ax, ats⟩, ty, pos, af, g⟩ W K :=
 SD i j he (fun a b c _ => k ⟨a, b, c⟩) h m ha
end
def Si (op : BinOp) : Value → Value → Option Value
 | .int k a, .int k' b => if k = k' then MG k op a b else none
 | _, _ => none
def Xr (i : Nat) : Value → Option Value
 | .tuple vs => vs[i]?
 | _ => none
def MN : Value → Bool
 | .pointer (some ⟨_, _, none⟩) => true
 | _ => false
def W0 (o : Nat) : Value → Value
 | .pointer (some ⟨b, k, none⟩) => .pointer (some ⟨b, k + o, none⟩)
 | v => v
theorem Lu {v : Value} (h : MN v = true) : ∃ b k, v = .pointer (some ⟨b, k, none⟩) := by
 unfold MN at h; split at h
 ·exact ⟨_, _, rfl⟩
 ·cases h
section
variable {P : Program} {n : Nat} {Q : ov} {E : Nat → Value} {W : World} {ops : Array Oper} {rest : List Oper}
 {d j t : Nat} {want b : Bool} {v : Value} {ins : Go.Op} {ty : TypeId} {pos : String} {af : Array Edge} {A : Value → Prop} {x y : Operand}
theorem Wm (h : LW P n ops Q rest (nE E d (kJ E x)) W) (a : d < n := by decide) : LW P n ops Q (⟨some d, .move x, ty, pos, af, none⟩ :: rest) E W := V (kM rfl) h a
theorem Wa (h : LW P n ops Q rest (nE E d (kJ E x)) W) (a : d < n := by decide) : LW P n ops Q (⟨some d, .assign x, ty, pos, af, none⟩ :: rest) E W := V (nH rfl) h a
theorem Wh (c : kJ E x = v) (h : LW P n ops Q rest (nE E d v) W) (a : d < n := by decide) : LW P n ops Q (⟨some d, .move x, ty, pos, af, none⟩ :: rest) E W := V (kM c) h a
theorem Wg (c : kJ E x = v) (h : LW P n ops Q rest (nE E d v) W) (a : d < n := by decide) : LW P n ops Q (⟨some d, .assign x, ty, pos, af, none⟩ :: rest) E W := V (nH c) h a
theorem Wx {i : Nat} (a : Xr i (kJ E x) = some v) (h : LW P n ops Q rest (nE E d v) W) (c : d < n := by decide) : LW P n ops Q (⟨some d, .extract x i, ty, pos, af, none⟩ :: rest) E W := by
 unfold Xr at a; split at a
 ·rename_i vs e; exact V (Cd e a) h c
 ·cases a
theorem Wi {op : BinOp} {tx tv : TypeId} (c : Si op (kJ E x) (kJ E y) = some v) (h : LW P n ops Q rest (nE E d v) W) (j : d < n := by decide) : LW P n ops Q (⟨some d, .binOp op tx x y tv, ty, pos, af, none⟩ :: rest) E W := by
 unfold Si at c; split at c
 ·rename_i k a k' b g i
  split at c
  ·rename_i e; subst e; exact V (lK g i c) h j
  ·cases c
 ·cases c
theorem Wf {t : TypeId} {f off : Nat} (a : mj P t f off) (h : LW P n ops Q rest (nE E d (W0 off (kJ E x))) W) (hp : MN (kJ E x) = true := by exact rfl) (c : d < n := by decide) : LW P n ops Q (⟨some d, .fieldAddr t x f, ty, pos, af, none⟩ :: rest) E W := by
 obtain ⟨b, k, e⟩ := Lu hp
 refine V (kH a e) ?_ c
 rw [e] at h; exact h
theorem Wn (h : LW P n ops Q rest (nE E d (kJ E x)) W) (hp : MN (kJ E x) = true := by exact rfl) (a : d < n := by decide) : LW P n ops Q (⟨some d, .nilCheck x, ty, pos, af, none⟩ :: rest) E W := by
 obtain ⟨b, k, e⟩ := Lu hp
 refine V (nz e) ?_ a
 rw [e] at h; exact h
theorem un (h : b = !want) (k : LW P n ops Q rest (nE E d undef) W) (c : (ops[j]?).bind (·.dst) = some t := by exact rfl) (a : E t = .bool b := by exact rfl) (i : t < n := by decide) (g : d < n := by decide) :
  LW P n ops Q (⟨some d, ins, ty, pos, af, some (j, want)⟩ :: rest) E W := Vn c (by rw [a, h]) k i g
theorem ug (h : b = want) (i : mA P E ⟨some d, ins, ty, pos, af, some (j, want)⟩ W v W) (k : LW P n ops Q rest (nE E d v) W) (c : (ops[j]?).bind (·.dst) = some t := by exact rfl) (a : E t = .bool b := by exact rfl) (m : t < n := by decide) (g : d < n := by decide) :
  LW P n ops Q (⟨some d, ins, ty, pos, af, some (j, want)⟩ :: rest) E W := Vg c (by rw [a, h]) i k m g
theorem qy (h : b = want) (k : nN P E ⟨some d, ins, ty, pos, af, some (j, want)⟩ W fun v W' => LW P n ops Q rest (nE E d v) W') (c : (ops[j]?).bind (·.dst) = some t := by exact rfl) (a : E t = .bool b := by exact rfl) (i : t < n := by decide) (g : d < n := by decide) :
  LW P n ops Q (⟨some d, ins, ty, pos, af, some (j, want)⟩ :: rest) E W := SR c (by rw [a, h]) k i g
theorem UQ (h : b = want) (i : ∃ p, A p ∧ ∀ W, mA P E ⟨some d, ins, ty, pos, af, some (j, want)⟩ W p W) (k : ∀ p, A p → LW P n ops Q rest (nE E d p) W) (c : (ops[j]?).bind (·.dst) = some t := by exact rfl) (a : E t = .bool b := by exact rfl) (m : t < n := by decide) (g : d < n := by decide) :
  LW P n ops Q (⟨some d, ins, ty, pos, af, some (j, want)⟩ :: rest) E W := Y0 c (by rw [a, h]) i k m g
section
variable {dd : Bool} {F : Nat → Prop} {w : World} {μ : lq} {L : List (Nat × Obj)} {T : TypeId} {a off : Nat} {cs : Array Value} {fr : Nat × Nat}
theorem VA {t : TypeId} (c : ST dd F w W μ L) (i : (a, Obj.cells cs T fr) ∈ L) (ys : List Value) (g : ∀ w, (isAgg t).run P w = .ok true w) (j : ∀ w, (sizeOf t).run P w = .ok ys.length w) (h : LW P n ops Q rest (nE E d (.agg ys.toArray)) W) (m : kJ E x = .pointer (some ⟨a, off, none⟩) := by exact rfl) (o : (cs.toList.drop off).take ys.length = ys := by exact rfl) (k : d < n := by decide) : LW P n ops Q (⟨some d, .load t x, ty, pos, af, none⟩ :: rest) E W := V (kE m (kL c.has i ys o g j)) h k
theorem VB {t : TypeId} (c : ST dd F w W μ L) (i : (a, Obj.cells cs T fr) ∈ L) (k : kJ E x = .pointer (some ⟨a, off, none⟩)) (m : cs[off]? = some v) (g : ∀ w, (isAgg t).run P w = .ok false w) (h : LW P n ops Q rest (nE E d v) W) (j : d < n := by decide) : LW P n ops Q (⟨some d, .load t x, ty, pos, af, none⟩ :: rest) E W := V (kE k (kR c.has i m g)) h j
end
section
variable {K : (Nat → Value) → World → Prop} {Q' : ov} {c : Code} {id id2 : Nat} {l : List Oper} {z : Code}
theorem sg (h : LW P n l.toArray (qM (fun E W => CW P n c Q E W) Q) l E W) : CW P n (.seq (.region id l.toArray false) c) Q E W := kV (kT h)
theorem ln (h : K E W) : LW P n ops (qM K Q) [] E W := lo (kK h)
theorem lr (h : LW P n l.toArray (qM (fun E W => CW P n c Q E W) Q) l E W) : LW P n ops (qM (fun E W => CW P n (.seq (.region id l.toArray false) c) Q E W) Q') [] E W := lo (kK (kV (kT h)))
theorem lS (h : LW P n l.toArray (qM (fun E W => CW P n c (qM (fun E W => CW P n z Q E W) Q) E W) (qM (fun E W => CW P n z Q E W) Q)) l E W) : LW P n ops (qM (fun E W => CW P n (.seq (.seq (.region id l.toArray false) c) z) Q E W) Q') [] E W := lo (kK (kV (kV (kT h))))
theorem bg (h : LW P n l.toArray (qM (fun E W => CW P n c (ya id2 Q) E W) (ya id2 Q)) l E W) : CW P n (.block id2 (.seq (.region id l.toArray false) c)) Q E W := mP (kV (kT h))
theorem kg (h : LW P n l.toArray (qM (fun E W => CW P n c Q E W) Q) l E W) : CW P n .skip (qM (fun E W => CW P n (.seq (.region id l.toArray false) c) Q E W) Q') E W := lG (kK (kV (kT h)))
theorem kS (h : LW P n l.toArray (qM (fun E W => CW P n c (qM (fun E W => CW P n z Q E W) Q) E W) (qM (fun E W => CW P n z Q E W) Q)) l E W) : CW P n .skip (qM (fun E W => CW P n (.seq (.seq (.region id l.toArray false) c) z) Q E W) Q') E W := lG (kK (kV (kV (kT h))))
theorem lt (h : Q .ret E W) : LW P n ops (qM (fun E W => CW P n .ret Q E W) Q') [] E W := lo (kK (lx h))
theorem kn (h : K E W) : CW P n .skip (qM K Q) E W := lG (kK h)
end
end
theorem ST.Yk {α : Type} {dd : Bool} {F : Nat → Prop} {w W : World} {μ : lq} {R Y : List (Nat × Obj)} {e' : TypeId} {enc : α → List Value} {k : Nat} {v : Value} {l : List α} (d : ST dd F w W μ (R ++ Y)) (h : qS e' enc k v l R) (hk : ∀ x, (enc x).length = k) : ∃ μ', ST dd F w W μ' Y ∧ lb μ μ' ∧ Lo F w μ μ' ∧ Sl (Pl enc) k μ' v l := by
 obtain ⟨μ', g, a2, a3, a4⟩ := ST.A2 d
 refine ⟨μ', g, a2, a3, (h.GH hk).mono (Pl.mono _) (fun b o a => ?_)⟩
 unfold Cw at a
 cases c : List.find? (fun p => p.1 == b) R with
 | none => rw [c] at a; cases a
 | some q =>
  rw [c] at a
  have h1 := eQ c
  have i := iO c
  obtain rfl : q.2 = o := by simpa using a
  obtain rfl : q.1 = b := by simpa using i
  exact a4 _ _ h1
section
variable {P : Program} {E : Nat → Value} {W : World} {d : Option Nat} {ty : TypeId} {pos : String} {af : Array Edge} {g : Option (Nat × Bool)}
theorem Xf {tx tv : TypeId} {x y : Operand} {k : IntKind} {a b : Int} (c : kJ E x = .int k a) (h : kJ E y = .int k b) :
  mA P E ⟨d, .binOp .andNot tx x y tv, ty, pos, af, g⟩ W (.int k (k.wrap (BitVec.ofInt k.bits a &&& ~~~ BitVec.ofInt k.bits b).toNat)) W := by
 show (do let r ← (do eqGuard .andNot tx x y (kJ E x) (kJ E y); binOp .andNot tx (kJ E x) (kJ E y)); pure (.value r) : Sem Next).run P W = _
 rw [c, h]
 simp [eqGuard, binOp, Op.intBits]
end
def YV {β : Type} (P : Program) (fv : Value) (μ : lq) (Rl : rH β) (pm : β × β → Option Int) : Prop :=
 ∃ f caps, fv = .func (.func f) #[] caps ∧ (∀ args w, (callFunc f args).run P w = .ok (.enter f args) w) ∧ ∀ W x y z r, lb μ (hp W) → Rl (hp W) [y] x.1 → Rl (hp W) [z] x.2 → pm x = some r → lg true P f ([y, z] ++ caps.toList) W (.int .i64 r)
open Classical in
noncomputable def EG {β : Type} (cf : β × β → Option Int) (l : List β) : Option (List β) := if l.Nodup then yF cf l else none
theorem qS.RQ {α : Type} {dd : Bool} {w W : World} {μ : lq} {L R : List (Nat × Obj)} {e : TypeId} {enc : α → List Value} {k : Nat} {v : Value} {l : List α} (h : qS e enc k v l R) (c : ST dd lu w W μ L) (i : ∀ p, p ∈ R → p ∈ L) : Fr w.heap.size v := by
 rcases h with ⟨rfl, rfl, rfl⟩ | ⟨g, off, cap, a, rfl, rfl, h1, j, m, n⟩
 ·exact Fr.nil _
 ·intro b d
  simp [Value.ownBlock] at d
  subst d
  rcases (c.box g (.cells a e (0, 0)) (i _ (aN.2 rfl))).2.2 with h | h
  ·exact h
  ·exact h.elim
theorem II.mono {α β : Type} {P : Program} {fv : Value} {μ μ0 : lq} {a : α → List Value} {c : β → Value} {pm : α → Option β} (h : II P fv μ a c pm) (i : lb μ μ0) : II P fv μ0 a c pm := by
 obtain ⟨f, caps, h1, d, g⟩ := h
 exact ⟨f, caps, h1, d, fun W x r h => g W x r (i.trans h)⟩
theorem II.form {α β : Type} {P : Program} {fv : Value} {μ : lq} {c : α → List Value} {d : β → Value} {pm : α → Option β} (h : II P fv μ c d pm) : ∃ f a b, fv = .func f a b := let ⟨f, b, h, _⟩ := h; ⟨_, _, b, h⟩
theorem Ym {P : Program} {E : Nat → Value} {d : Option Nat} {ty : TypeId} {pos : String} {af : Array Edge} {g : Option (Nat × Bool)} {F : Nat → Prop} {w W : World} {μ μ0 : lq} {L : List (Nat × Obj)} {dd : Bool} {α β : Type} {K : Value → World → Prop} {fv : Value} {c : α → List Value} {k : β → Value} {pm : α → Option β} {i : Operand} {ax : Array Operand} {ats : Array TypeId} (x : α) {r : β} (a : ST dd F w W μ L) (s : II P fv μ0 c k pm) (u : lb μ0 μ) (t : kJ E i = fv) (ha : ax.map (kJ E) ++ (#[] : Array Value) = (c x).toArray) (hm : pm x = some r) (h : ∀ W', ST dd F w W' μ L → K (k r) W') : nN P E ⟨d, .call ⟨.value i, ax, ats⟩, ty, pos, af, g⟩ W K := by
 obtain ⟨f, caps, rfl, m, n⟩ := s
 have j : ax.map (kJ E) = (c x).toArray := by simpa using ha
 refine .inr (.inr ⟨f, (c x ++ caps.toList).toArray, ?_, cD ((n W x r (u.trans a.kN) hm).mz (dd := dd)) (fun _ _ ⟨o, q⟩ => ⟨_, o, h _ (a.Ia q)⟩)⟩)
 show (do let d ← resolve (kJ E) ⟨.value i, ax, ats⟩ ty; invoke d.target d.args : Sem Next).run P W = _
 simp only [resolve, t, Deferred.ofValue, cd, db, bN, invoke, j, m]
 congr 2
 simp
def Jy {S : Type} (rd : S → List Int) : Int ⊕ S → Int
 | .inl x => x
 | .inr r => if (rd r).length > 0 then 13 else 0
def QT (P : Program) (fn : Func) (R : Ending → World → Prop) : ov
 | .normal, E, W | .ret, E, W => ∃ v, (∀ tmps : Array Value, (∀ t, tmps.getD t undef = E t) → (results fn tmps).run P W = .ok v W) ∧ R (.returned v) W
 | .panic c, _, W => R (.panicked c) W
 | _, _, _ => False
theorem wz {P : Program} {fn : Func} {R : Ending → World → Prop} {E : Nat → Value} {W : World} (h : zU P fn R .ret E W) : QT P fn R .ret E W := h
theorem rj {P : Program} {f : FuncId} {fn : Func} {c : Code} {args : List Value} {w : World} {R : Ending → World → Prop} {n : Nat} (q : P.funcs[f]? = some fn) (o : fn.body = some c) (s : fn.ntmps = n) (ha : args.length ≤ n) (h : CW P n c (QT P fn R) (zk args) w) : Calls P f args.toArray w R := by
 refine calls_of_wp q o ?_
 have j : Ag n { tmps := args.toArray ++ Array.replicate (fn.ntmps - args.toArray.size) undef, defers := [] } (zk args) := by
  refine ⟨by simp; omega, rfl, fun t => ?_⟩
  simp only [zk, cU, fM, fC, ga, cN, fD]
  by_cases m : t < args.length
  ·rw [aK m]
  ·rw [aJ m, cQ (by omega)]
   split <;> simp
 refine gb (h _ j) (fun e a u g => ?_)
 cases e with
 | normal =>
  obtain ⟨E, d, v, k, i⟩ := g
  exact ⟨d.2.1, v, k _ d.2.2, i⟩
 | ret =>
  obtain ⟨E, d, v, k, i⟩ := g
  exact ⟨d.2.1, v, k _ d.2.2, i⟩
 | exit id => obtain ⟨E, d, h⟩ := g; exact h.elim
 | goto l => obtain ⟨E, d, h⟩ := g; exact h.elim
 | panic c => exact g
 | outgrown => exact g.elim
def MZ (P : Program) (E : Nat → Value) (o : Oper) (W : World) (X : List PanicEntry → World → Prop) : Prop :=
 (∃ v W', (execOp (kJ E) o).run P W = .halt (.panic v) W' ∧ X [{ v := v, recovered := false }] W') ∨
 (∃ f args, (execOp (kJ E) o).run P W = .ok (.enter f args) W ∧ Calls P f args W fun e a => ∃ c, e = .panicked c ∧ X c a)
theorem MZ.wp {P : Program} {n : Nat} {E : Nat → Value} {o : Oper} {W : World} {X : List PanicEntry → World → Prop} (h : MZ P E o W X) {a : Act} (ha : Ag n a E) {K : Exit → Act → World → Prop} {J : Act → World → Prop} (hk : ∀ c w, X c w → K (.panic c) a w) : o.wp P a W J K := by
 unfold Oper.wp
 rw [ha.eval]
 rcases h with ⟨v, W', h1, d⟩ | ⟨f, args, h1, d⟩
 ·rw [h1]; exact hk _ _ d
 ·rw [h1, dO]
  refine cD d ?_
  rintro e i ⟨c, rfl, g⟩
  exact hk _ _ g
section
variable {P : Program} {n : Nat} {Q : ov} {E : Nat → Value} {W : World} {ops : Array Oper} {rest : List Oper} {S : Array Bool → World → Prop} {fuel : Nat} {listed : Array Bool}
theorem sn {o : Oper} (hw : mG n ops E o) (h : MZ P E o W fun c w => Q (.panic c) E0 w) : LW P n ops Q (o :: rest) E W := fun a ha => by
 unfold wpList
 rw [aK (hw.of ha)]
 refine .inl ?_
 exact h.wp ha (fun c w d => ⟨ha.2.1, d⟩)
theorem WN {o : Oper} (i : Nat) (m : ops[i]? = some o) (d : Region.ready .any ops listed = [i]) (hw : mG n ops E o) (h : MZ P E o W fun c w => Q (.panic c) E0 w) : PX P n ops Q S (fuel + 1) listed E W := fun s a ha => by
 refine ⟨fun k => (by rw [k] at d; cases d), fun j g => ?_⟩
 rw [d] at g
 obtain rfl := aN.1 g
 unfold wpOp
 simp only [m]
 rw [aK (hw.of ha)]
 refine .inl ?_
 exact h.wp ha (fun c w q => ⟨ha.2.1, q⟩)
end
def nj {R : Type} (dd : Bool) (w : World) (μ0 : lq) (L0 : List (Nat × Obj)) (s : Int ⊕ R) (K : R → Value → List (Nat × Obj) → lq → Prop) (X : Int → List PanicEntry → List (Nat × Obj) → lq → Prop) : Ending → World → Prop := fun e a =>
 match s with
 | .inl x => ∃ c L1 μ1, e = .panicked c ∧ sR dd L0 L1 w a ∧ lb μ0 μ1 ∧ Lo (keys L0) w μ0 μ1 ∧ lb μ1 (sS a L1) ∧ X x c L1 μ1
 | .inr r => ∃ v L1 μ1, e = .returned v ∧ sR dd L0 L1 w a ∧ lb μ0 μ1 ∧ Lo (keys L0) w μ0 μ1 ∧ lb μ1 (sS a L1) ∧ K r v L1 μ1
def Hy (dd : Bool) (P : Program) (f : FuncId) (args : List Value) (w : World) (μ0 : lq) (L0 : List (Nat × Obj)) (X : List PanicEntry → List (Nat × Obj) → lq → Prop) : Prop :=
 Calls P f args.toArray w fun e a => ∃ c L1 μ1, e = .panicked c ∧ sR dd L0 L1 w a ∧ lb μ0 μ1 ∧ Lo (keys L0) w μ0 μ1 ∧ lb μ1 (sS a L1) ∧ X c L1 μ1
def lP {R : Type} (dd : Bool) (P : Program) (f : FuncId) (args : List Value) (w : World) (μ0 : lq) (L0 : List (Nat × Obj)) (s : Int ⊕ R) (K : R → Value → List (Nat × Obj) → lq → Prop) (X : Int → List PanicEntry → List (Nat × Obj) → lq → Prop) : Prop :=
 Calls P f args.toArray w (nj dd w μ0 L0 s K X)
theorem lP.r {R : Type} {dd : Bool} {P : Program} {f : FuncId} {args : List Value} {w : World} {μ0 : lq} {L0 : List (Nat × Obj)} {r : R} {K : R → Value → List (Nat × Obj) → lq → Prop} {X : Int → List PanicEntry → List (Nat × Obj) → lq → Prop} (h : lP dd P f args w μ0 L0 (.inr r) K X) : pK dd P f args w μ0 L0 (K r) := h
theorem lP.l {R : Type} {dd : Bool} {P : Program} {f : FuncId} {args : List Value} {w : World} {μ0 : lq} {L0 : List (Nat × Obj)} {x : Int} {K : R → Value → List (Nat × Obj) → lq → Prop} {X : Int → List PanicEntry → List (Nat × Obj) → lq → Prop} (h : lP dd P f args w μ0 L0 (.inl x : Int ⊕ R) K X) : Hy dd P f args w μ0 L0 (X x) := h
theorem nw {K : (Nat → Value) → World → Prop} {Q : ov} {c : List PanicEntry} {E : Nat → Value} {W : World} (h : Q (.panic c) E W) : qM K Q (.panic c) E W := h
theorem xr {id : Nat} {Q : ov} {c : List PanicEntry} {E : Nat → Value} {W : World} (h : Q (.panic c) E W) : ya id Q (.panic c) E W := h
theorem pn {P : Program} {fn : Func} {R : Ending → World → Prop} {c : List PanicEntry} {E : Nat → Value} {W : World} (h : R (.panicked c) W) : QT P fn R (.panic c) E W := h
section
variable {P : Program} {W : World} {E : Nat → Value} {d : Option Nat} {ty : TypeId} {pos : String} {af : Array Edge} {g : Option (Nat × Bool)} {F : Nat → Prop} {w : World} {μ : lq} {L : List (Nat × Obj)} {dd : Bool}
theorem nW {X : List PanicEntry → World → Prop} {X' : List PanicEntry → List (Nat × Obj) → lq → Prop} {f : FuncId} {fv : Operand} {ax : Array Operand} {ats : Array TypeId} {caps : Array Value} {args : List Value} (L0 L2 : List (Nat × Obj)) (a : ST dd F w W μ L) (i : L.Perm (L0 ++ L2)) (z : kJ E fv = .func (.func f) #[] caps) (he : ∀ args w, (callFunc f args).run P w = .ok (.enter f args) w) (ha : ax.map (kJ E) ++ (#[] : Array Value) = args.toArray) (y : E1 L0 W → (L0.map (·.1)).Nodup → lb μ (sS W L0) → (∀ b o, (b, o) ∈ L2 → sS W L0 b = some o) → Hy dd P f (args ++ caps.toList) W μ L0 X') (h : ∀ W' c μ' L1, ST dd F w W' μ' (L1 ++ L2) → lb μ μ' → Lo F w μ μ' → X' c L1 μ' → X c W') : MZ P E ⟨d, .call ⟨.value fv, ax, ats⟩, ty, pos, af, g⟩ W X := by
 have j : ax.map (kJ E) = args.toArray := by simpa using ha
 refine .inr ⟨f, (args ++ caps.toList).toArray, LA z he (by rw [j]; simp), cD (y (a.held i) (a.TE i) (a.Uc i) (a.KT i)) (fun _ W' ⟨v, L1, μ1, h1, m, n, k, s, t⟩ => ⟨v, h1, h W' v μ1 L1 ((a.perm i).Ux m k s) n (fun b x u => k b (cO x a.size) (fun ⟨o, A⟩ => by
  rcases ((a.perm i).box b o (bF _ A)).2.2 with q | q
  ·omega
  ·exact u q)) t⟩)⟩
end
section
variable {P : Program} {W : World} {E : Nat → Value} {d : Option Nat} {ty : TypeId} {pos : String} {af : Array Edge} {g : Option (Nat × Bool)}
def xP (t : TypeId) (b : Nat) (x : Int) : Value := .iface t (.agg #[.pointer (some ⟨b, 0, none⟩), .int .i64 x])
theorem VC {t : TypeId} {x : Operand} {v : Value} {u : TypeDesc} (a : P.underlying t = some u) (hu : ∀ q, u ≠ .interface q) (c : kJ E x = v) : mA P E ⟨d, .makeInterface t x, ty, pos, af, g⟩ W (.iface t v) W := by
 show (do let r ← Instr.makeInterface t (kJ E x); pure (.value r) : Sem Next).run P W = _
 rw [c]
 unfold Instr.makeInterface
 simp only [cd, aT a, bN]
 cases u <;> simp_all
theorem Vd {X : List PanicEntry → World → Prop} {x : Operand} {t : TypeId} {v : Value} (a : kJ E x = .iface t v) (h : X [{ v := .iface t v, recovered := false }] W) : MZ P E ⟨d, .panic x, ty, pos, af, g⟩ W X := by
 refine .inl ⟨.iface t v, W, ?_, h⟩
 show (do let r ← Instr.panic (kJ E x); pure (.value r) : Sem Next).run P W = _
 rw [a]
 simp [Instr.panic]
end
theorem nj.li {R : Type} {dd : Bool} {w : World} {μ0 : lq} {L0 : List (Nat × Obj)} {x : Int} {K : R → Value → List (Nat × Obj) → lq → Prop} {X : Int → List PanicEntry → List (Nat × Obj) → lq → Prop} {e : Ending} {a : World} (h : ∃ c L1 μ1, e = .panicked c ∧ sR dd L0 L1 w a ∧ lb μ0 μ1 ∧ Lo (keys L0) w μ0 μ1 ∧ lb μ1 (sS a L1) ∧ X x c L1 μ1) : nj dd w μ0 L0 (.inl x : Int ⊕ R) K X e a := h
theorem nj.ri {R : Type} {dd : Bool} {w : World} {μ0 : lq} {L0 : List (Nat × Obj)} {r : R} {K : R → Value → List (Nat × Obj) → lq → Prop} {X : Int → List PanicEntry → List (Nat × Obj) → lq → Prop} {e : Ending} {a : World} (h : ∃ v L1 μ1, e = .returned v ∧ sR dd L0 L1 w a ∧ lb μ0 μ1 ∧ Lo (keys L0) w μ0 μ1 ∧ lb μ1 (sS a L1) ∧ K r v L1 μ1) : nj dd w μ0 L0 (.inr r : Int ⊕ R) K X e a := h
theorem Qm {P : Program} {fn : Func} {R : Ending → World → Prop} {E : Nat → Value} {W : World} (h : zU P fn R .normal E W) : QT P fn R .normal E W := h
theorem Hy.mz {dd : Bool} {P : Program} {f : FuncId} {args : List Value} {w : World} {μ0 : lq} {L0 : List (Nat × Obj)} {X : List PanicEntry → List (Nat × Obj) → lq → Prop} (h : Hy true P f args w μ0 L0 X) : Hy dd P f args w μ0 L0 X :=
 cD h fun _ _ ⟨v, L1, μ1, h1, a, c⟩ => ⟨v, L1, μ1, h1, a.mz, c⟩
def ED (D : List Deferred) (n : Nat) (a : Act) (E : Nat → Value) : Prop := a.tmps.size = n ∧ a.defers = D ∧ ∀ t, a.tmps.getD t undef = E t
section
variable {D : List Deferred} {n : Nat} {a : Act} {E : Nat → Value}
theorem ED.eval (h : ED D n a E) : a.eval = kJ E := by
 funext x
 cases x with
 | tmp t => exact h.2.2 t
 | const v => rfl
 | global g => rfl
 | func f => rfl
theorem ED.put (h : ED D n a E) {d : Nat} (i : d < n) (v : Value) : ED D n (a.put (some d) v) (nE E d v) := by
 refine ⟨by simp [Act.put, h.1], h.2.1, fun t => ?_⟩
 have g := h.2.2 t
 simp only [Act.put, nE]
 by_cases c : t = d
 ·subst c
  simp [h.1, i]
 ·have : ¬ d = t := fun e => c e.symm
  rw [aJ c, ← g]
  simp [cU, this]
theorem ED.xg (h : ED D n a E) (v : Value) : ED D n (a.put none v) E := h
theorem ED.yield (h : ED D n a E) {ops : Array Oper} {j t : Nat} {b : Bool} (d : (ops[j]?).bind (·.dst) = some t) (i : t < n) (k : E t = .bool b) : yielded ops a.tmps j = some b := by
 have c := h.2.2 t
 have g : a.tmps[t]? = some (E t) := by
  rw [← c]
  simp [cU, h.1, i]
 simp [yielded, d, g, k]
end
def Ry (D : List Deferred) (n : Nat) (Q : ov) : Exit → Act → World → Prop
 | .panic c, a, w => a.defers = D ∧ a.tmps.size = n ∧ Q (.panic c) (fun t => a.tmps.getD t undef) w
 | .outgrown, _, _ => False
 | e, a, w => ∃ E, ED D n a E ∧ Q e E w
def GD (D : List Deferred) (P : Program) (n : Nat) (c : Code) (Q : ov) (E : Nat → Value) (W : World) : Prop := ∀ a, ED D n a E → c.wp P (Ry D n Q) a W
def Dy (D : List Deferred) (P : Program) (n : Nat) (ops : Array Oper) (Q : ov) (l : List Oper) (E : Nat → Value) (W : World) : Prop := ∀ a, ED D n a E → wpList P ops (Ry D n Q) l a W
section
variable {D : List Deferred} {P : Program} {n : Nat} {Q : ov} {E : Nat → Value} {W : World} {c x y : Code} {ops : Array Oper} {rest : List Oper} {o : Oper}
theorem De (h : GD D P n x (qM (fun E W => GD D P n y Q E W) Q) E W) : GD D P n (.seq x y) Q E W := fun a ha =>
 wp_seq (gb (h a ha) (fun e d i h => by
  cases e with
  | normal => obtain ⟨E', c, g⟩ := h; exact g d c
  | _ => exact h))
theorem TQ (h : Q .normal E W) : GD D P n .skip Q E W := fun _ ha => wp_skip ⟨E, ha, h⟩
theorem P8 (h : Q .ret E W) : GD D P n .ret Q E W := fun _ ha => wp_ret ⟨E, ha, h⟩
theorem Ta {co : Operand} {b : Bool} (c : kJ E co = .bool b) (g : b = true → GD D P n x Q E W) (d : b = false → GD D P n y Q E W) : GD D P n (.cond co x y) Q E W := fun a ha => by
 refine wp_cond_split (t := b) (by rw [ha.eval]; exact c) (fun h => g h a ha) (fun h => d h a ha)
theorem OK {co : Operand} (a : kJ E co = .bool true) (h : GD D P n x Q E W) : GD D P n (.cond co x y) Q E W := Ta a (fun _ => h) (fun h => by cases h)
theorem Bv {id : Nat} {l : List Oper} (h : Dy D P n l.toArray Q l E W) : GD D P n (.region id l.toArray false) Q E W := fun a ha => wp_region_lit (h a ha)
theorem Fj (h : Q .normal E W) : Dy D P n ops Q [] E W := fun _ ha => wpList_nil ⟨E, ha, h⟩
theorem mG.N2 {a : Act} (h : mG n ops E o) (ha : ED D n a E) : Region.wanted o (yielded ops a.tmps) = true := by
 rcases h with h | ⟨j, want, t, d, g, i, c⟩
 ·simp [Region.wanted, h]
 ·simp [Region.wanted, d, ha.yield g i c]
theorem Pf {d : Nat} {v : Value} {W' : World} (hw : mG n ops E o) (c : o.dst = some d) (g : d < n) (i : (execOp (kJ E) o).run P W = .ok (.value v) W') (h : Dy D P n ops Q rest (nE E d v) W') : Dy D P n ops Q (o :: rest) E W := fun a ha => by
 unfold wpList
 rw [aK (hw.N2 ha)]
 refine .inl ?_
 unfold Oper.wp
 rw [ha.eval, i, dN, c]
 exact h _ (ha.put g v)
theorem RV {W' : World} (hw : mG n ops E o) (c : o.dst = none) (d : (execOp (kJ E) o).run P W = .ok .skip W') (h : Dy D P n ops Q rest E W') : Dy D P n ops Q (o :: rest) E W := fun a ha => by
 unfold wpList
 rw [aK (hw.N2 ha)]
 refine .inl ?_
 unfold Oper.wp
 rw [ha.eval, d, eJ, c]
 exact h _ (ha.xg _)
theorem RZ {f : FuncId} {args : Array Value} {d : Nat} (hw : mG n ops E o) (g : o.dst = some d) (j : d < n) (k : (execOp (kJ E) o).run P W = .ok (.enter f args) W) (h : Calls P f args W fun e c => ∃ v, e = .returned v ∧ Dy D P n ops Q rest (nE E d v) c) : Dy D P n ops Q (o :: rest) E W := fun a ha => by
 unfold wpList
 rw [aK (hw.N2 ha)]
 refine .inl ?_
 unfold Oper.wp
 rw [ha.eval, k, dO]
 refine h.mono ?_
 rintro e c ⟨v, rfl, i⟩
 simp only [g]
 exact i _ (ha.put j v)
theorem YR {o : Oper} {dd : Nat} (hw : mG n ops E o) (d : o.dst = some dd) (g : dd < n) (h : nN P E o W fun v W' => Dy D P n ops Q rest (nE E dd v) W') : Dy D P n ops Q (o :: rest) E W := by
 rcases h with ⟨v, W', h1, c⟩ | ⟨W', h1, c⟩ | ⟨f, args, h1, c⟩
 ·exact Pf hw d g h1 c
 ·intro a ha
  unfold wpList
  rw [aK (hw.N2 ha)]
  refine .inl ?_
  unfold Oper.wp
  rw [ha.eval, h1, eJ, d]
  exact c _ (ha.put g _)
 ·exact RZ hw d g h1 c
theorem SN {o : Oper} (hw : mG n ops E o) (d : o.dst = none) (h : nN P E o W fun _ W' => Dy D P n ops Q rest E W') : Dy D P n ops Q (o :: rest) E W := by
 rcases h with ⟨v, W', h1, c⟩ | ⟨W', h1, c⟩ | ⟨f, args, h1, c⟩
 ·intro a ha
  unfold wpList
  rw [aK (hw.N2 ha)]
  refine .inl ?_
  unfold Oper.wp
  rw [ha.eval, h1, dN, d]
  exact c _ (ha.xg _)
 ·exact RV hw d h1 c
 ·intro a ha
  unfold wpList
  rw [aK (hw.N2 ha)]
  refine .inl ?_
  unfold Oper.wp
  rw [ha.eval, h1, dO]
  refine cD c ?_
  rintro e i ⟨v, rfl, g⟩
  simp only [d]
  exact g _ (ha.xg _)
theorem B1 {dd : Nat} {v : Value} (hw : mG n ops E o) (a : o.dst = some dd) (c : dd < n) (d : mA P E o W v W) (h : Dy D P n ops Q rest (nE E dd v) W) : Dy D P n ops Q (o :: rest) E W := Pf hw a c d h
theorem YL (hw : mG n ops E o) (h : MZ P E o W fun c w => ∀ E', (∀ t, E' t = E t) → Q (.panic c) E' w) : Dy D P n ops Q (o :: rest) E W := fun a ha => by
 unfold wpList
 rw [aK (hw.N2 ha)]
 refine .inl ?_
 unfold Oper.wp
 rw [ha.eval]
 rcases h with ⟨v, W', h1, d⟩ | ⟨f, args, h1, d⟩
 ·rw [h1]; exact ⟨ha.2.1, ha.1, d _ ha.2.2⟩
 ·rw [h1, dO]
  refine cD d ?_
  rintro e i ⟨c, rfl, g⟩
  exact ⟨ha.2.1, ha.1, g _ ha.2.2⟩
end
section
variable {P : Program} {n : Nat} {E : Nat → Value} {W : World} {c y : Code} {a : Act} {cs : List Frame} {Q : Exit → Act → List Frame → World → Prop}
theorem X4 (h : CW P n c (fun e E W => e = .normal ∧ ∀ a, Ag n a E → y.wpS P Q a cs W) E W) (ha : Ag n a E) : (Code.seq c y).wpS P Q a cs W :=
 wpS_seq (wpS_of_wp (gb (h a ha) (fun e g j h => by
  cases e with
  | normal => obtain ⟨E', d, _, i⟩ := h; exact i g d
  | panic c => exact absurd h.2.1 (by simp)
  | outgrown => exact h.elim
  | _ => obtain ⟨E', d, h1, _⟩ := h; cases h1)))
theorem PD {fn : Func} {g : Frame} {j : List Frame} {R : Ending → FrameMode → World → Prop} {u : FrameMode} (k : fn.results = #[]) (h : CW P n c (fun e E W => (e = .normal ∨ e = .ret) ∧ R (.returned (.tuple #[])) u W) E W) (ha : Ag n a E) : c.wpS P (bodyPostS P fn g j R) a ({ g with mode := u } :: j) W :=
 wpS_of_wp (gb (h a ha) (fun e m o h => by
  cases e with
  | normal => obtain ⟨E', d, _, i⟩ := h; exact ⟨d.2.1, u, rfl, .tuple #[], results_none k _ _ _, i⟩
  | ret => obtain ⟨E', d, _, i⟩ := h; exact ⟨d.2.1, u, rfl, .tuple #[], results_none k _ _ _, i⟩
  | panic c => rcases h.2.1 with h | h <;> cases h
  | outgrown => exact h.elim
  | _ => obtain ⟨E', d, h1, _⟩ := h; rcases h1 with h | h <;> cases h))
theorem IJ {id d d2 : Nat} {c g : Oper} {cs' : List Frame} {v : Value} (o : d < n) (m : d2 < n) (h1 : c.guard = none) (q : g.guard = none) (j : c.dst = some d) (k : g.dst = some d2) (t : ∀ a : Act, (execOp a.eval c).run P W = .ok .recover W) (hm : ∀ E : Nat → Value, E d = v → mA P E g W v W) (i : recoverD cs = some (v, cs') ∨ recoverD cs = none ∧ v = .nilIface ∧ cs' = cs) (ha : Ag n a E) (h : ∀ a, Ag n a (nE (nE E d v) d2 v) → Q .normal a cs' W) : (Code.region id #[c, g] false).wpS P Q a cs W := by
 refine wpS_region ?_
 have s : List.range (#[c, g] : Array Oper).size = [0, 1] := rfl
 rw [s]
 have key : ∀ a : Act, Ag n a (nE E d v) → wpOpsS P #[c, g] Q [1] a cs' W := fun a ha => by
  unfold wpOpsS
  simp only [show (#[c, g] : Array Oper)[1]? = some g from rfl]
  rw [aK (by simp [Region.wanted, q])]
  have := hm (nE E d v) (by simp [nE])
  unfold mA at this
  rw [ha.eval, this]
  simp only [dN, k]
  unfold wpOpsS
  exact h _ (ha.put m v)
 unfold wpOpsS
 simp only [show (#[c, g] : Array Oper)[0]? = some c from rfl]
 rw [aK (by simp [Region.wanted, h1]), t]
 simp only
 rcases i with i | ⟨i, rfl, rfl⟩
 ·rw [i]
  simp only [j]
  exact key _ (ha.put o v)
 ·rw [i]
  simp only [j]
  exact key _ (ha.put o _)
theorem NU {args : List Value} {fn : Func} {n : Nat} (c : fn.ntmps = n) (h : args.length ≤ n) : Ag n { tmps := args.toArray ++ Array.replicate (fn.ntmps - args.toArray.size) undef, defers := [] } (zk args) := by
 refine ⟨by simp; omega, rfl, fun t => ?_⟩
 simp only [zk, cU, fM, fC, ga, cN, fD]
 by_cases a : t < args.length
 ·rw [aK a]
 ·rw [aJ a, cQ (by omega)]
  split <;> simp
end
section
variable {P : Program} {E : Nat → Value} {W : World} {d : Option Nat} {x y : Operand} {tx tv ty : TypeId} {pos : String} {af : Array Edge} {g : Option (Nat × Bool)} {ms : List (String × TypeId)}
theorem KL {t tx : TypeId} {q} {v : Value} (dd : Nat) (a : P.underlying tx = some (.interface q)) (W : World) : (Op.equalIn (dd + 1) tx (.iface t v) .nilIface).run P W = .ok false W := by
 simp [Op.equalIn, aT a]
theorem Kg {tx : TypeId} {q} (dd : Nat) (a : P.underlying tx = some (.interface q)) (W : World) : (Op.equalIn (dd + 1) tx .nilIface .nilIface).run P W = .ok true W := by
 simp [Op.equalIn, aT a]
theorem IZ {tx e : TypeId} {k : Nat} {p : Addr} (dd : Nat) (c : P.underlying tx = some (.pointer e)) (a : ∀ w, (sizeOf e).run P w = .ok (k + 1) w) (W : World) : (Op.equalIn (dd + 1) tx (.pointer (some p)) (.pointer (some p))).run P W = .ok true W := by
 simp [Op.equalIn, aT c, a W, run_sameAddr_same]
theorem Wt {q} {t : TypeId} {v : Value} (c : P.underlying tx = some (.interface q)) (h : kJ E x = .iface t v) (i : kJ E y = .nilIface) : mA P E ⟨d, .binOp .eql tx x y tv, ty, pos, af, g⟩ W (.bool false) W := by
 show (do let r ← (do eqGuard .eql tx x y (kJ E x) (kJ E y); binOp .eql tx (kJ E x) (kJ E y)); pure (.value r) : Sem Next).run P W = _
 rw [h, i]
 have a := KL (t := t) (v := v) 9999 c W
 simp [eqGuard, binOp, Op.equal, Op.maxDepth, a]
theorem VV {q} {v : Value} (c : P.underlying tx = some (.interface q)) (h : kJ E x = .nilIface) (i : kJ E (.const v) = .nilIface) : mA P E ⟨d, .binOp .eql tx x (.const v) tv, ty, pos, af, g⟩ W (.bool true) W := by
 show (do let r ← (do eqGuard .eql tx x (.const v) (kJ E x) (kJ E (.const v)); binOp .eql tx (kJ E x) (kJ E (.const v))); pure (.value r) : Sem Next).run P W = _
 rw [h, i]
 have a := Kg 9999 c W
 simp [eqGuard, binOp, Op.equal, Op.maxDepth, a]
theorem OW {e : TypeId} {k : Nat} {p : Addr} (h : P.underlying tx = some (.pointer e)) (c : ∀ w, (sizeOf e).run P w = .ok (k + 1) w) (i : kJ E x = .pointer (some p)) (j : kJ E y = .pointer (some p)) : mA P E ⟨d, .binOp .neq tx x y tv, ty, pos, af, g⟩ W (.bool false) W := by
 show (do let r ← (do eqGuard .neq tx x y (kJ E x) (kJ E y); binOp .neq tx (kJ E x) (kJ E y)); pure (.value r) : Sem Next).run P W = _
 rw [i, j]
 have a := IZ (p := p) 9999 h c W
 simp [eqGuard, binOp, Op.equal, Op.maxDepth, a]
theorem QN {t : TypeId} {v : Value} {u : TypeDesc} (a : P.underlying t = some u) (hu : ∀ q, u ≠ .interface q) (c : kJ E x = .iface t v) : mA P E ⟨d, .typeAssert x tx t true, ty, pos, af, g⟩ W (.tuple #[v, .bool true]) W := by
 show (do let r ← Instr.typeAssert (kJ E x) tx t true; pure (.value r) : Sem Next).run P W = _
 rw [c]
 unfold Instr.typeAssert
 simp only [cd, aT a, bN]
 cases u <;> simp_all
end
def UN (n : Nat) (Q : List Deferred → ov) (e : Exit) (a : Act) (w : World) : Prop := ∃ D, Ry D n (Q D) e a w
def PN (P : Program) (n : Nat) (c : Code) (Q : List Deferred → ov) (E : Nat → Value) (W : World) : Prop := ∀ a, Ag n a E → c.wp P (UN n Q) a W
def UD (P : Program) (n : Nat) (ops : Array Oper) (Q : List Deferred → ov) (l : List Oper) (E : Nat → Value) (W : World) : Prop := ∀ a, Ag n a E → wpList P ops (UN n Q) l a W
def Ye (P : Program) (fn : Func) (R : Ending → World → Prop) (D : List Deferred) : ov
 | .normal, E, W | .ret, E, W => ∀ tmps : Array Value, (∀ t, tmps.getD t undef = E t) → Leaves P fn tmps R D .returning W
 | .panic c, E, W => ∀ tmps : Array Value, (∀ t, tmps.getD t undef = E t) → Leaves P fn tmps R D (.panicking c) W
 | _, _, _ => False
section
variable {P : Program} {n : Nat} {Q : List Deferred → ov} {E : Nat → Value} {W : World} {c x y : Code} {ops : Array Oper} {rest : List Oper} {o : Oper}
theorem PL (h : CW P n x (fun e E W => e = .normal ∧ PN P n y Q E W) E W) : PN P n (.seq x y) Q E W := fun a ha =>
 wp_seq (gb (h a ha) (fun e g j h => by
  cases e with
  | normal => obtain ⟨E', d, _, i⟩ := h; exact i g d
  | panic c => exact absurd h.2.1 (by simp)
  | outgrown => exact h.elim
  | _ => obtain ⟨E', d, h1, _⟩ := h; cases h1))
theorem XZ (h : PN P n x (fun D => qM (fun E W => GD D P n y (Q D) E W) (Q D)) E W) : PN P n (.seq x y) Q E W := fun a ha =>
 wp_seq (gb (h a ha) (fun e d i ⟨D, h⟩ => by
  cases e with
  | normal => obtain ⟨E', c, g⟩ := h; exact gb (g d c) (fun e a w h => ⟨D, h⟩)
  | _ => exact ⟨D, h⟩))
theorem QU {id : Nat} {l : List Oper} (h : UD P n l.toArray Q l E W) : PN P n (.region id l.toArray false) Q E W := fun a ha => wp_region_lit (h a ha)
theorem YN {dd : Nat} {v : Value} (hw : mG n ops E o) (d : o.dst = some dd) (g : dd < n) (c : mA P E o W v W) (h : UD P n ops Q rest (nE E dd v) W) : UD P n ops Q (o :: rest) E W := fun a ha => by
 unfold wpList
 rw [aK (hw.of ha)]
 refine .inl ?_
 unfold Oper.wp
 unfold mA at c
 rw [ha.eval, c, dN, d]
 exact h _ (ha.put g v)
theorem RK {d : Deferred} (hw : mG n ops E o) (c : o.dst = none) (g : (execOp (kJ E) o).run P W = .ok (.defer d) W) (h : Q [d] .normal E W) : UD P n ops Q [o] E W := fun a ha => by
 unfold wpList
 rw [aK (hw.of ha)]
 refine .inl ?_
 unfold Oper.wp
 rw [ha.eval, g, Oper.upon_defer, c]
 exact wpList_nil ⟨[d], E, ⟨ha.1, by simp [Act.put, ha.2.1], ha.2.2⟩, h⟩
theorem Ov {f : FuncId} {fn : Func} {c : Code} {args : List Value} {w : World} {R : Ending → World → Prop} (j : P.funcs[f]? = some fn) (i : fn.body = some c) (k : fn.ntmps = n) (ha : args.length ≤ n) (h : PN P n c (fun D => Ye P fn R D) (zk args) w) : Calls P f args.toArray w R := by
 refine calls_of_wp_defers j i (gb (h _ (NU k ha)) (fun e a m ⟨D, g⟩ => ?_))
 cases e with
 | normal => obtain ⟨E, d, h⟩ := g; show Leaves _ _ _ _ a.defers _ _; rw [d.2.1]; exact h _ d.2.2
 | ret => obtain ⟨E, d, h⟩ := g; show Leaves _ _ _ _ a.defers _ _; rw [d.2.1]; exact h _ d.2.2
 | exit id => obtain ⟨E, d, h⟩ := g; exact h.elim
 | goto l => obtain ⟨E, d, h⟩ := g; exact h.elim
 | panic c => show Leaves _ _ _ _ a.defers _ _; rw [g.1]; exact g.2.2 _ (fun _ => rfl)
 | outgrown => exact g.elim
theorem R7 {d : Option Nat} {ty : TypeId} {pos : String} {af : Array Edge} {g : Option (Nat × Bool)} {f : FuncId} {fv : Operand} {ax : Array Operand} {ats : Array TypeId} {caps : Array Value} {args : List Value} (c : kJ E fv = .func (.func f) #[] caps) (ha : ax.map (kJ E) ++ (#[] : Array Value) = args.toArray) : (execOp (kJ E) ⟨d, .defer ⟨.value fv, ax, ats⟩, ty, pos, af, g⟩).run P W = .ok (.defer ⟨.fn (.func f) caps, args.toArray⟩) W := by
 show (do pure (.defer (← resolve (kJ E) ⟨.value fv, ax, ats⟩ ty)) : Sem Next).run P W = _
 have a : ax.map (kJ E) = args.toArray := by simpa using ha
 simp [resolve, Deferred.ofValue, c, a]
theorem Ni {fn : Func} {R : Ending → World → Prop} {k : FuncId} {ax : Array Value} {u : FrameMode} {X : World → Prop} (hu : u ≠ .run) (he : ∀ args w, (callFunc k args).run P w = .ok (.enter k args) w) (c : CallsD P k ax u W fun e a W' => e = .returned (.tuple #[]) ∧ settle a = .returning ∧ X W') (h : ∀ W', X W' → zU P fn R .ret E W') (tmps : Array Value) (i : ∀ t, tmps.getD t undef = E t) : Leaves P fn tmps R [⟨.fn (.func k) #[], ax⟩] u W :=
 leaves_cons hu (by simp [invoke, he]) (CallsD.mono c (by
  rintro e a W' ⟨rfl, g, m⟩
  obtain ⟨v, j, d⟩ := h W' m
  show Leaves _ _ _ _ [] (settle a) _
  rw [g]
  exact ⟨v, j _ i, d⟩))
end
theorem sa.form {κ γ : Type} {kenc : κ → Value} {Q : Value → γ → List (Nat × Obj) → Prop} {μ : lq} {v : Value} {l : List (κ × γ)} (h : sa kenc Q μ v l) : ∃ m, v = .map m := by
 obtain ⟨a, R, h, _⟩ := h
 obtain ⟨m, rfl⟩ := h.form
 exact ⟨_, rfl⟩
def U0 (dd : Bool) (w : World) (μ0 : lq) (L0 : List (Nat × Obj)) (K : Value → List (Nat × Obj) → lq → Prop) : Ending → World → Prop := fun e a => ∃ v L1 μ1, e = .returned v ∧ sR dd L0 L1 w a ∧ lb μ0 μ1 ∧ Lo (keys L0) w μ0 μ1 ∧ lb μ1 (sS a L1) ∧ K v L1 μ1
theorem Ss {dd : Bool} {P : Program} {f : FuncId} {args : List Value} {w : World} {μ0 : lq} {L0 : List (Nat × Obj)} {K : Value → List (Nat × Obj) → lq → Prop} (h : Calls P f args.toArray w (U0 dd w μ0 L0 K)) : pK dd P f args w μ0 L0 K := h
theorem pK.mono {dd : Bool} {P : Program} {f : FuncId} {args : List Value} {w : World} {μ0 : lq} {L0 : List (Nat × Obj)} {K K' : Value → List (Nat × Obj) → lq → Prop} (h : pK dd P f args w μ0 L0 K) (hk : ∀ v L1 μ1, lb μ0 μ1 → K v L1 μ1 → K' v L1 μ1) : pK dd P f args w μ0 L0 K' :=
 cD h fun _ _ ⟨v, L1, μ1, h1, c, a, d, g, i⟩ => ⟨v, L1, μ1, h1, c, a, d, g, hk _ _ _ a i⟩
theorem lP.mono {R : Type} {dd : Bool} {P : Program} {f : FuncId} {args : List Value} {w : World} {μ0 : lq} {L0 : List (Nat × Obj)} {s : Int ⊕ R} {K K' : R → Value → List (Nat × Obj) → lq → Prop} {X X' : Int → List PanicEntry → List (Nat × Obj) → lq → Prop} (h : lP dd P f args w μ0 L0 s K X) (hk : ∀ r v L1 μ1, K r v L1 μ1 → K' r v L1 μ1) (k : ∀ x c L1 μ1, X x c L1 μ1 → X' x c L1 μ1) : lP dd P f args w μ0 L0 s K' X' :=
 cD h fun e m h => by
  cases s with
  | inl x => obtain ⟨v, L1, μ1, h1, a, d, g, i, j⟩ := h; exact ⟨v, L1, μ1, h1, a, d, g, i, k _ _ _ _ j⟩
  | inr r => obtain ⟨v, L1, μ1, h1, a, d, g, i, j⟩ := h; exact ⟨v, L1, μ1, h1, a, d, g, i, hk _ _ _ _ j⟩
def UP {S : Type} (K : S → List (Nat × Obj) → lq → Prop) (X : Int → List (Nat × Obj) → lq → Prop) : Int ⊕ S → List (Nat × Obj) → lq → Prop
 | .inl x => X x
 | .inr r => K r
end Go.Proofs.YtbnbdigcbldfhaaGreat
namespace Go.Proofs.YtbnbdigcbldfhaaGreat
open Go.IntKind renaming wrap → wi0
open Go.Sort Go.Proofs Go.Shelf
theorem BO {g b : Nat} {o : Obj} : keys [(g, o)] b ↔ b = g := by
 constructor
 ·rintro ⟨a, h⟩
  simp at h
  exact h.1
 ·rintro rfl; exact ⟨o, by simp⟩
theorem BV (w : World) (g m : Nat) (f : Array Value → Array Value) (os : Array Obj) (b : Nat) (c : b < w.heap.size) :
  (Go.Sort.grow (mapBlock (Go.Sort.ahead w m) g f) os).heap[b]? = if g = b then w.heap[b]?.map (onCells f) else w.heap[b]? := by
 have a : b < (mapBlock (Go.Sort.ahead w m) g f).heap.size := by simp only [mapBlock, Go.Sort.ahead, Array.size_modify]; exact c
 rw [heap_grow_old _ _ a]
 simp only [mapBlock, Go.Sort.ahead, dL]
theorem EM {w : World} {g m : Nat} {f : Array Value → Array Value} {os : Array Obj} {cs : Array Value} {T : TypeId} {fr : Nat × Nat} (c : w.heap[g]? = some (.cells cs T fr)) :
  sR true [(g, .cells cs T fr)] [(g, .cells (f cs) T fr)] w (Go.Sort.grow (mapBlock (Go.Sort.ahead w m) g f) os) := by
 have a : g < w.heap.size := (cK.1 c).1
 refine ⟨⟨rfl, rfl, rfl, ?_, ?_, fun b d i => ?_⟩, fun b o h => ?_, by simp⟩
 ·refine vc.of ?_
  show w.drawn ≤ w.drawn + m
  omega
 ·show w.heap.size ≤ (w.heap.modify g (onCells f) ++ os).size
  simp
 ·rw [BV _ _ _ _ _ _ d, aJ fun h => i (BO.2 h.symm)]
 ·simp only [aQ, da, fh, Prod.mk.injEq] at h
  obtain ⟨rfl, rfl⟩ := h
  refine ⟨?_, .inr (BO.2 rfl)⟩
  rw [BV _ _ _ _ _ _ a, aK rfl, c]
  rfl
theorem JC {w W : World} (h : Ex true w W) : ∃ q os, W = Go.Sort.grow (w.drewN q) os := by
 refine ⟨W.drawn - w.drawn, W.heap.extract w.heap.size W.heap.size, ?_⟩
 have g : W.heap = w.heap ++ W.heap.extract w.heap.size W.heap.size := by
  apply Array.ext_getElem?
  intro i
  rw [fC]
  split
  ·rename_i j; exact h.ng i j
  ·rename_i j
   rw [Array.getElem?_extract]
   have m := h.size
   split
   ·rw [show w.heap.size + (i - w.heap.size) = i by omega]
   ·exact Array.getElem?_eq_none (by omega)
 obtain ⟨h1, n, o, s, t⟩ := W
 have a := h.os; have c := h.tape; have d := h.output; have k := h.drawn rfl
 simp only at a c d k g
 unfold Go.Sort.grow World.drewN
 simp only [World.mk.injEq]
 exact ⟨g, c, by omega, a, d⟩
theorem PC {α : Type} [Inhabited α] {enc : α → List Value} {k : Nat} (hk : ∀ x, (enc x).length = k) (l : List α) (j : Nat) (a : j < l.length * k) :
  (l.map enc).flatten[j]? = some ((flatK enc k l.toArray)[j]!) := by
 have g : 0 < k := by
  cases k with
  | zero => simp at a
  | succ n => omega
 have h1 : j / k < l.length := (ic g).2 a
 rw [get_flatK _ _ _ _ (by simpa using a)]
 have h : l.toArray[j / k]! = l[j / k] := by
  rw [gH l.toArray (j / k) (by simpa using h1)]; simp
 rw [h]
 have c : j % k < (enc l[j / k]).length := by rw [hk]; exact Nat.mod_lt _ g
 have d := za hk l (j / k) l[j / k] (cj h1) (j % k) ((enc l[j / k])[j % k]) (cj c)
 rw [Nat.div_add_mod' j k] at d
 rw [d, gH (enc l[j / k]) (j % k) c]
theorem Mi {α : Type} [Inhabited α] {enc : α → List Value} {k : Nat} (hk : ∀ x, (enc x).length = k) {w : World} {g : Nat} {cs : Array Value} {T : TypeId} (c : w.heap[g]? = some (.cells cs T (0, 0))) (l : List α)
  (h : cs.toList.take (l.length * k) = (l.map enc).flatten) : HoldsK enc k w g 0 l.toArray := by
 intro j d
 have a : j < l.length * k := by simpa using d
 have h1 := PC hk l j a
 rw [← h, dA, aK a] at h1
 refine ⟨?_, ?_⟩
 ·simp only [World.cell?, c, dg]
  simpa using h1
 ·simp [World.frozen?, c]
theorem O1 {α : Type} [Inhabited α] {enc : α → List Value} {k : Nat} (hk : ∀ x, (enc x).length = k) {cs : Array Value} (l : List α) (c : l.length * k ≤ cs.size) :
  (putCells id 0 (flatK enc k l.toArray) cs).toList.take (l.length * k) = (l.map enc).flatten := by
 apply dG
 intro j
 rw [dA]
 split
 ·rename_i a
  rw [PC hk l j a]
  simp only [putCells, df, ig, size_flatK, cN]
  rw [eS (by omega)]
  simp [a]
 ·rename_i a
  rw [cQ (by rw [pN hk]; omega)]
theorem MF (enc : Value → Value) (o : Nat) (d c : Array Value) : (putCells enc o d c).size = c.size := by simp [putCells]
section
variable {α : Type} {P : Program} {ρ : Ren}
theorem SE {l : List α} {cf : α × α → Option Int} (h : Ho cf l) : SWO (ltOf fun (x y : {x // x ∈ l}) => (cf (x.1, y.1)).getD 0) ∧
  (∀ x y : {x // x ∈ l}, ltOf (fun (x y : {x // x ∈ l}) => (cf (x.1, y.1)).getD 0) x y = uy cf x.1 y.1) := by
 have e : ∀ x y : {x // x ∈ l}, ltOf (fun (x y : {x // x ∈ l}) => (cf (x.1, y.1)).getD 0) x y = uy cf x.1 y.1 := fun x y => by
  obtain ⟨c, i⟩ := h.is x.1 x.2 y.1 y.2
  simp [ltOf, uy, i]
 refine ⟨⟨fun x => ?_, fun x y z => ?_, fun x y z => ?_⟩, e⟩
 ·rw [e]; exact h.irrefl _ x.2
 ·rw [e, e, e]; exact h.trans _ x.2 _ y.2 _ z.2
 ·rw [e, e, e]
  intro h1 d
  cases a : uy cf x.1 z.1 with
  | false => rfl
  | true =>
   cases g : uy cf y.1 x.1 with
   | true =>
    have := h.trans _ y.2 _ x.2 _ z.2 g a
    rw [d] at this; cases this
   | false =>
    have := h.total _ x.2 _ y.2 h1 g
    rw [this, d] at a; cases a
theorem IN (L : SlLaysF0.n6 P ρ) (k : Nat) (aE : ∀ w, (isAgg (ρ.t 24)).run P w = .ok true w) (zE : ∀ w, (Go.sizeOf (ρ.t 24)).run P w = .ok k w) {e : TypeId} (enc : α → List Value) (hk : ∀ x, (enc x).length = k) (h1 : ∀ x, ∀ u ∈ enc x, u.oneCell' = true) {v fv : Value} {l r : List α} {R : List (Nat × Obj)} {cf : α × α → Option Int} {w : World} {μ0 : lq} (hH : E1 (R ++ []) w) (A : lb μ0 (sS w (R ++ []))) (Y : kZ e enc k v l R) (hc : II P fv μ0 (fun (x : α × α) => [(.agg (enc x.1).toArray), (.agg (enc x.2).toArray)]) (fun (r : Int) => (.int .i64 r)) cf) (hm : yF cf l = some r) :
  mn true P (ρ.f 6) [v, fv] w (R ++ []) (fun u L1 _ => ∃ (S : List (Nat × Obj)), u = (.tuple #[]) ∧ L1 = (S ++ []) ∧ kZ e enc k v r S) := by
 obtain ⟨ok, rfl⟩ := CS hm
 rw [ct] at hH A ⊢
 rcases dI l.length with h0 | i
 ·have hl : l = [] := bP h0
  subst hl
  have Z : pS cf ([] : List α) = [] := by simp [pS]
  rw [Z]
  obtain ⟨p, c, rfl⟩ : ∃ p c, v = .slice p 0 c := by
   rcases Y with ⟨rfl, _, _⟩ | ⟨g, cap, j, rfl, _⟩
   ·exact ⟨_, _, rfl⟩
   ·exact ⟨_, _, rfl⟩
  refine cD (AnyF.slices_SortFunc_none L p c fv w) fun x w' ⟨hx, hw⟩ => ?_
  subst hx hw
  refine ⟨_, R, rfl, ⟨⟨rfl, rfl, rfl, vc.of (bD _), bD _, fun _ _ _ => rfl⟩, fun b o h => ⟨hH b o h, .inr ⟨o, h⟩⟩, ?_⟩, R, rfl, (ct R).symm, Y⟩
  rcases Y with ⟨_, _, rfl⟩ | ⟨g, cap, j, _, rfl, _⟩ <;> simp
 ·rcases Y with ⟨_, rfl, _⟩ | ⟨g, cap, j, rfl, rfl, a8, a7, J, ae⟩
  ·simp at i
  have hg : w.heap[g]? = some (.cells j e (0, 0)) := hH g _ (by simp)
  have aa : g < w.heap.size := (cK.1 hg).1
  haveI : Inhabited {x // x ∈ l} := ⟨⟨l[0], dP i⟩⟩
  obtain ⟨gg, caps, rfl, M, q⟩ := hc
  obtain ⟨hO, Q⟩ := SE ok
  have D : l.attach.toArray.size = l.length := by simp
  have ab : l.attach.map (fun x => enc x.1) = l.map enc := by
   rw [show (fun x : {x // x ∈ l} => enc x.1) = enc ∘ Subtype.val from rfl, ← dT, List.attach_map_subtype_val]
  have a1 : HoldsK (fun x : {x // x ∈ l} => enc x.1) k w g 0 l.attach.toArray := Mi (fun x => hk x.1) hg l.attach (by rw [ab, List.length_attach, ae])
  have I : CmpLays P gg caps (fun x : {x // x ∈ l} => enc x.1) k (fun x y => (cf (x.1, y.1)).getD 0) g 0 l.attach.toArray.size w := by
   intro m os dk ag x y
   obtain ⟨c, G⟩ := ok.is x.1 x.2 y.1 y.2
   have W : lb μ0 (hp (sortWorldK (fun x : {x // x ∈ l} => enc x.1) k w g 0 m dk os)) := fun b o hb => by
    have z := A b o hb
    unfold sS at z
    split at z
    ·cases z
    ·rename_i hn
     have a6 : b < w.heap.size := (cK.1 z).1
     show (Go.Sort.grow (mapBlock (Go.Sort.ahead w m) g _) os).heap[b]? = _
     rw [BV _ _ _ _ _ _ a6, aJ fun h => hn (BO.2 h.symm)]
     exact z
   have h3 := q (sortWorldK (fun x : {x // x ∈ l} => enc x.1) k w g 0 m dk os) (x.1, y.1) c W G
   have ea : ([Value.agg (enc x.1).toArray, Value.agg (enc y.1).toArray] ++ caps.toList).toArray = #[Value.agg (enc x.1).toArray, Value.agg (enc y.1).toArray] ++ caps := by
    apply Array.ext'; simp
   rw [← ea]
   exact cD h3 fun u W' hu => ⟨by rw [hu.1]; show _ = Ending.returned (.int .i64 ((cf (x.1, y.1)).getD 0)); rw [G]; rfl, JC hu.2⟩
  have hT : ∀ x y : {x // x ∈ l}, ltOf (fun (x y : {x // x ∈ l}) => (cf (x.1, y.1)).getD 0) x y = false → ltOf (fun (x y : {x // x ∈ l}) => (cf (x.1, y.1)).getD 0) y x = false → x = y := fun x y a b => by
   rw [Q] at a b
   exact Subtype.ext (ok.total _ x.2 _ y.2 a b)
  have d := AnyQ.slices_SortFunc_total L k aE zE (fun x : {x // x ∈ l} => enc x.1) (fun x => hk x.1) (fun x => h1 x.1) (fun x y => (cf (x.1, y.1)).getD 0) hO gg caps g 0 cap l.attach.toArray w M I a1 aa (by rw [D]; exact ok.short) hT
  rw [D] at d
  refine cD d fun u w' ⟨hu, n, os, hw⟩ => ?_
  subst hu
  generalize Z : l.attach.toArray.toList.mergeSort (fun x y => !ltOf (fun (x y : {x // x ∈ l}) => (cf (x.1, y.1)).getD 0) y x) = s at hw
  have ad : s.map Subtype.val = pS cf l := by
   rw [← Z, gh (s := fun x y => !uy cf y x) (fun a _ b _ => by rw [Q])]
   simp [pS]
  have U : s.length = l.length := by rw [← Z, fF]; simp
  have T : (pS cf l).length = l.length := by simp [pS, fF]
  have E := EM (w := w) (m := n) (f := putCells id 0 (flatK (fun x : {x // x ∈ l} => enc x.1) k s.toArray)) (os := os) hg
  have af : w' = Go.Sort.grow (mapBlock (Go.Sort.ahead w n) g (putCells id 0 (flatK (fun x : {x // x ∈ l} => enc x.1) k s.toArray))) os := hw
  rw [← af] at E
  refine ⟨_, _, rfl, E, _, rfl, (ct _).symm, .inr ⟨g, cap, _, by rw [T], rfl, by omega, a7, by rw [MF, J], ?_⟩⟩
  rw [T, ← U, O1 (fun x => hk x.1) s (by rw [U, J]; exact cn k a8), ← ad, dT]
  rfl
end
end Go.Proofs.YtbnbdigcbldfhaaGreat
namespace Go.Proofs.YtbnbdigcbldfhaaGreat
open Go.IntKind renaming wrap → wi0
open Go.Sort Go.Proofs Go.Shelf Go.RowKit
def xx (c : tV 1) : Value := c.1.headD undef
theorem Ie (c : tV 1) : c.1 = [xx c] := by
 obtain ⟨l, h, d⟩ := c
 match l, h with
 | [a], _ => rfl
theorem Tu (c : tV 1) : (xx c).oneCell' = true := c.2.2 _ (by rw [Ie c]; simp)
theorem RB : ∀ cl : List (tV 1), (cl.map xb).flatten = cl.map xx
 | [] => rfl
 | c :: cl => by rw [bE, dv, RB cl, show xb c = [xx c] from Ie c]; rfl
theorem TA {α β : Type} {Q : α → β → Prop} {cl : List α} {l : List β} (h : qO Q cl l) : ∀ (i : Nat) (x : β), l[i]? = some x → ∃ c, cl[i]? = some c ∧ Q c x := by
 induction h with
 | nil => intro i x a; simp at a
 | cons g _ ih =>
  intro i x a
  cases i with
  | zero => simp at a; subst a; exact ⟨_, by simp, g⟩
  | succ i => simp at a; obtain ⟨c, h1, d⟩ := ih i x a; exact ⟨c, by simpa using h1, d⟩
theorem M5 {α β γ : Type} {Q : α → β → Prop} {f : γ → α} {g : γ → β} : ∀ s : List γ, (∀ x ∈ s, Q (f x) (g x)) → qO Q (s.map f) (s.map g)
 | [], _ => .nil
 | x :: s, h => .cons (h x (by simp)) (M5 s (fun y a => h y (by simp [a])))
theorem XG {β : Type} {Q : tV 1 → β → Prop} {cl : List (tV 1)} {l : List β} (h : qO Q cl l) (s : l.Nodup) : ∃ enc : {x // x ∈ l} → tV 1, l.attach.map enc = cl ∧ ∀ x, Q (enc x) x.1 := by
 have g : ∀ x : {x // x ∈ l}, ∃ (i : Nat) (c : tV 1), l[i]? = some x.1 ∧ cl[i]? = some c ∧ Q c x.1 := fun x => by
  obtain ⟨i, a⟩ := List.getElem?_of_mem x.2
  obtain ⟨c, h1, q⟩ := TA h i _ a
  exact ⟨i, c, a, h1, q⟩
 refine ⟨fun x => (g x).choose_spec.choose, ?_, fun x => (g x).choose_spec.choose_spec.2.2⟩
 apply dG
 intro i
 rw [dw]
 by_cases a : i < l.length
 ·have o : l.attach[i]? = some ⟨l[i], dP a⟩ := by
   rw [cj (by simpa using a)]; simp
  rw [o, dC]
  have t := (g ⟨l[i], dP a⟩).choose_spec.choose_spec
  generalize (g ⟨l[i], dP a⟩).choose_spec.choose = c at *
  generalize (g ⟨l[i], dP a⟩).choose = j at *
  obtain ⟨n, a2, _⟩ := t
  obtain ⟨m, k⟩ := bB.1 n
  have : j = i := by
   have hp := fU.1 s
   rcases fH j i with d | d | d
   ·exact absurd k (hp j i m a d)
   ·exact d
   ·exact absurd k.symm (hp i j a m d)
  rw [← this, a2]
 ·rw [cQ (by simpa using a), cQ (by rw [h.length]; omega)]; rfl
theorem NW {α : Type} [Inhabited α] {enc : α → Value} {cs : Array Value} (l : List α) (c : l.length ≤ cs.size) :
  (putCells enc 0 l.toArray cs).toList.take l.length = l.map enc := by
 apply dG
 intro j
 rw [dA, dw]
 split
 ·rename_i a
  simp only [putCells, df, ig, cN]
  rw [eS (by omega)]
  simp [a]
 ·rename_i a
  rw [cQ (by omega)]; rfl
section
variable {P : Program} {ρ : Ren} {β : Type} {Rl : rH β}
theorem O3 (L : SlLaysF.n6 P ρ) (hD : Deep Rl 1) {e : TypeId} {v fv : Value} {l r : List β} {R : List (Nat × Obj)} {cf : β × β → Option Int} {w : World} {μ0 : lq} (h0 : pY μ0 (R ++ []) w) (hr : nn e Rl 1 μ0 v l R) (hc : YV P fv μ0 Rl cf) (hm : EG cf l = some r) :
  pK true P (ρ.f 6) [v, fv] w μ0 (R ++ []) (fun u L1 μ1 => ∃ (S : List (Nat × Obj)), u = (.tuple #[]) ∧ L1 = (S ++ []) ∧ nn e Rl 1 μ1 v r S) := by
 unfold EG at hm
 have hn : l.Nodup := dV fun h => by rw [aJ h] at hm; cases hm
 rw [aK hn] at hm
 obtain ⟨ok, rfl⟩ := CS hm
 have hH := h0.H
 have D := h0.S
 obtain ⟨cl, d, k⟩ := hr
 have hlen := k.length
 rw [ct] at hH D ⊢
 rcases dI l.length with hz | Z
 ·have hl : l = [] := bP hz
  subst hl
  have a8 : cl = [] := bP (by simpa using hlen)
  subst a8
  have hs : pS cf ([] : List β) = [] := by simp [pS]
  rw [hs]
  obtain ⟨p, c, rfl⟩ : ∃ p c, v = .slice p 0 c := by
   rcases d with ⟨rfl, _, _⟩ | ⟨g, cap, i, rfl, _⟩
   ·exact ⟨_, _, rfl⟩
   ·exact ⟨_, _, rfl⟩
  refine cD (AnyF.slices_SortFunc_none (P := P) (ρ := ρ) { L with } p c fv w) fun x w' ⟨hx, hw⟩ => ?_
  subst hx hw
  refine ⟨_, R, μ0, rfl, ⟨⟨rfl, rfl, rfl, vc.of (bD _), bD _, fun _ _ _ => rfl⟩, fun b o h => ⟨hH b o h, .inr ⟨o, h⟩⟩, ?_⟩, lb.refl _, Lo.refl, D, R, rfl, (ct R).symm, [], d, k⟩
  rcases d with ⟨_, _, rfl⟩ | ⟨g, cap, i, _, rfl, _⟩ <;> simp
 ·rcases d with ⟨_, rfl, _⟩ | ⟨g, cap, i, rfl, rfl, ad, aa, ab, I⟩
  ·simp at hlen; omega
  rw [hlen] at ad I
  rw [RB, Nat.mul_one] at I
  rw [Nat.mul_one] at ab
  have hg : w.heap[g]? = some (.cells i e (0, 0)) := hH g _ (by simp)
  have ae : g < w.heap.size := (cK.1 hg).1
  haveI : Inhabited {x // x ∈ l} := ⟨⟨l[0], dP Z⟩⟩
  obtain ⟨enc, he, hq⟩ := XG k hn
  obtain ⟨gg, caps, rfl, W, E⟩ := hc
  obtain ⟨hO, Y⟩ := SE ok
  have M : l.attach.toArray.size = l.length := by simp
  have a1 : cl.map xx = l.attach.map (fun x => xx (enc x)) := by rw [← he, dT]; rfl
  have a6 : Holds (fun x : {x // x ∈ l} => xx (enc x)) w g 0 l.attach.toArray := by
   intro j hj
   have G : j < l.length := by simpa using hj
   have e1 : i[j]? = some (xx (enc l.attach.toArray[j]!)) := by
    have h1 : (i.toList.take l.length)[j]? = i[j]? := by rw [dA, aK G]; simp
    rw [← h1, I, a1, dw, cj (by simpa using G), dC]
    rw [gH l.attach.toArray j (by simpa using G)]; simp
   refine ⟨?_, ?_⟩
   ·simp only [World.cell?, hg, dg]
    simpa using e1
   ·simp [World.frozen?, hg]
  have z : ∀ (m : Nat) (os : Array Obj) (J : Array {x // x ∈ l}), lb μ0 (hp (sortWorld (fun x : {x // x ∈ l} => xx (enc x)) w g 0 m J os)) := fun m os J b o hb => by
   have A := D b o hb
   unfold sS at A
   split at A
   ·cases A
   ·rename_i hn
    have a7 : b < w.heap.size := (cK.1 A).1
    show (Go.Sort.grow (mapBlock (Go.Sort.ahead w m) g _) os).heap[b]? = _
    rw [BV _ _ _ _ _ _ a7, aJ fun h => hn (BO.2 h.symm)]
    exact A
  have U : CmpLays1 P gg caps (fun x : {x // x ∈ l} => xx (enc x)) (fun x y => (cf (x.1, y.1)).getD 0) g 0 l.attach.toArray.size w := by
   intro m os J aj x y
   obtain ⟨c, T⟩ := ok.is x.1 x.2 y.1 y.2
   have t := z m os J
   have h3 := E (sortWorld (fun x : {x // x ∈ l} => xx (enc x)) w g 0 m J os) (x.1, y.1) (xx (enc x)) (xx (enc y)) c t (by rw [← Ie]; exact hD.mono _ _ _ _ t (hq x)) (by rw [← Ie]; exact hD.mono _ _ _ _ t (hq y)) T
   have ea : ([xx (enc x), xx (enc y)] ++ caps.toList).toArray = #[xx (enc x), xx (enc y)] ++ caps := by
    apply Array.ext'; simp
   rw [← ea]
   exact cD h3 fun u W' hu => ⟨by rw [hu.1]; show _ = Ending.returned (.int .i64 ((cf (x.1, y.1)).getD 0)); rw [T]; rfl, JC hu.2⟩
  have hT : ∀ x y : {x // x ∈ l}, ltOf (fun (x y : {x // x ∈ l}) => (cf (x.1, y.1)).getD 0) x y = false → ltOf (fun (x y : {x // x ∈ l}) => (cf (x.1, y.1)).getD 0) y x = false → x = y := fun x y a b => by
   rw [Y] at a b
   exact Subtype.ext (ok.total _ x.2 _ y.2 a b)
  have q := Any.slices_SortFunc_total L (fun x : {x // x ∈ l} => xx (enc x)) (fun x => Tu _) (fun x y => (cf (x.1, y.1)).getD 0) hO gg caps g 0 cap l.attach.toArray w W U a6 ae (by rw [M]; exact ok.short) hT
  rw [M] at q
  rw [hlen]
  refine cD q fun u w' ⟨hu, n, os, hw⟩ => ?_
  subst hu
  generalize hs : l.attach.toArray.toList.mergeSort (fun x y => !ltOf (fun (x y : {x // x ∈ l}) => (cf (x.1, y.1)).getD 0) y x) = s at hw
  have ah : s.map Subtype.val = pS cf l := by
   rw [← hs, gh (s := fun x y => !uy cf y x) (fun a _ b _ => by rw [Y])]
   simp [pS]
  have ag : s.length = l.length := by rw [← hs, fF]; simp
  have Q := EM (w := w) (m := n) (f := putCells (fun x : {x // x ∈ l} => xx (enc x)) 0 s.toArray) (os := os) hg
  have ai : w' = Go.Sort.grow (mapBlock (Go.Sort.ahead w n) g (putCells (fun x : {x // x ∈ l} => xx (enc x)) 0 s.toArray)) os := hw
  rw [← ai] at Q
  refine ⟨_, _, μ0, rfl, Q, lb.refl _, Lo.refl, ?_, _, rfl, (ct _).symm, s.map enc, .inr ⟨g, cap, _, by rw [dB, ag], rfl, by rw [dB]; omega, aa, by simp [putCells]; omega, ?_⟩, ?_⟩
  ·intro b o hb
   have A := D b o hb
   unfold sS at A ⊢
   split at A
   ·cases A
   ·rename_i af
    rw [aJ (fun h => af (BO.2 (BO.1 h)))]
    have := z n os s.toArray b o hb
    rw [hw]; exact this
  ·rw [dB, Nat.mul_one, RB, dT]
   exact NW s (by omega)
  ·rw [← ah]
   exact M5 s (fun x _ => hq x)
end
end Go.Proofs.YtbnbdigcbldfhaaGreat
namespace Go.Proofs.YtbnbdigcbldfhaaGreat
open Go.IntKind renaming wrap → wi0
open Go.Sort Go.Proofs Go.Shelf
theorem HG (b : ByteArray) : b.toList = b.data.toList := by rw [fc]
theorem MR (l : List ByteArray) : (l.map nu).flatten = l.map Value.string := by
 induction l with
 | nil => rfl
 | cons x l ih => simp only [bE, dv, ih]; rfl
theorem M4 (l : List ByteArray) : (pd l).map (fun b => b.data.toList) = (l.map (fun b => b.data.toList)).mergeSort (fun x y => decide (x ≤ y)) := by
 unfold pd
 refine gh fun a _ b _ => ?_
 unfold qz
 rw [bytesLess_eq, HG, HG]
 by_cases h : a.data.toList ≤ b.data.toList
 ·have c : ¬ b.data.toList < a.data.toList := List.not_lt.2 h
  simp [h, c]
 ·have c : b.data.toList < a.data.toList := by
   cases Decidable.em (b.data.toList < a.data.toList) with
   | inl d => exact d
   | inr d => exact absurd (List.not_lt.1 d) h
  simp [h, c]
section
variable {P : Program} {ρ : Ren}
theorem OQ (L : SlLaysM.n6 P ρ) {e : TypeId} {v : Value} {l r : List ByteArray} {R : List (Nat × Obj)} {w : World} (hH : E1 (R ++ []) w) (A : kZ e nu 1 v l R) (hm : Ib l = some r) :
  mn true P (ρ.f 6) [v] w (R ++ []) (fun u L1 _ => ∃ (S : List (Nat × Obj)), u = (.tuple #[]) ∧ L1 = (S ++ []) ∧ kZ e nu 1 v r S) := by
 unfold Ib at hm
 split at hm
 ·rename_i k
  cases hm
  rw [ct] at hH ⊢
  rcases dI l.length with T | s
  ·have Y : l = [] := bP T
   subst Y
   have hs : pd [] = [] := by simp [pd]
   rw [hs]
   obtain ⟨p, c, rfl⟩ : ∃ p c, v = .slice p 0 c := by
    rcases A with ⟨rfl, _, _⟩ | ⟨g, cap, d, rfl, _⟩
    ·exact ⟨_, _, rfl⟩
    ·exact ⟨_, _, rfl⟩
   refine cD (AnyM.slices_Sort_string_none L p c w) fun x Q ⟨hx, hw⟩ => ?_
   subst hx hw
   refine ⟨_, R, rfl, ⟨⟨rfl, rfl, rfl, vc.of (bD _), bD _, fun _ _ _ => rfl⟩, fun b o h => ⟨hH b o h, .inr ⟨o, h⟩⟩, ?_⟩, R, rfl, (ct R).symm, A⟩
   rcases A with ⟨_, _, rfl⟩ | ⟨g, cap, d, _, rfl, _⟩ <;> simp
  ·rcases A with ⟨_, rfl, _⟩ | ⟨g, cap, d, rfl, rfl, Z, E, G, J⟩
   ·simp at s
   have y : w.heap[g]? = some (.cells d e (0, 0)) := hH g _ (by simp)
   have I : g < w.heap.size := (cK.1 y).1
   have D : Holds encStr w g 0 (l.map (fun b => b.data.toList)).toArray := by
    intro j z
    have i : j < l.length := by simpa using z
    have h1 : (d.toList.take (l.length * 1))[j]? = ((l.map nu).flatten)[j]? := by rw [J]
    rw [MR, dA, aK (by omega), dw, cj i] at h1
    refine ⟨?_, by simp [World.frozen?, y]⟩
    simp only [World.cell?, y, dg]
    rw [gH _ j z]
    simpa using h1
   have a := AnyM.slices_Sort_string L g 0 cap (l.map (fun b => b.data.toList)) w D I (by simpa using k)
   rw [dB, ← M4] at a
   refine cD a fun u Q ⟨hu, n, os, hw⟩ => ?_
   subst hu
   have t : (pd l).length = l.length := by simp [pd, fF]
   have q := EM (w := w) (m := n) (f := putCells encStr 0 ((pd l).map (fun b => b.data.toList)).toArray) (os := os) y
   have M : Q = Go.Sort.grow (mapBlock (Go.Sort.ahead w n) g (putCells encStr 0 ((pd l).map (fun b => b.data.toList)).toArray)) os := hw
   rw [← M] at q
   refine ⟨_, _, rfl, q, _, rfl, (ct _).symm, .inr ⟨g, cap, _, by rw [t], rfl, by omega, E, by simpa [putCells] using G, ?_⟩⟩
   rw [t, MR]
   apply dG
   intro j
   rw [dA]
   split
   ·rename_i z
    have i : j < (pd l).length := by omega
    rw [dw, cj i]
    simp only [putCells, df, ig]
    rw [eS (by omega)]
    have U : j < ((pd l).map (fun b => b.data.toList)).toArray.size := by simpa using i
    have W : 0 ≤ j ∧ j < 0 + ((pd l).map (fun b => b.data.toList)).toArray.size := ⟨by omega, by omega⟩
    simp only [dC, aK W, Nat.sub_zero]
    rw [gH _ j U]
    simp
   ·rename_i z
    rw [cQ (by simp; omega)]
 ·cases hm
end
end Go.Proofs.YtbnbdigcbldfhaaGreat
namespace Go.Proofs.YtbnbdigcbldfhaaGreat
open Go.IntKind renaming wrap → wi0
open Go.WideElems Go.WideShapes Go.Sort Go.Proofs Go.Shelf
theorem OU {β : Type} {vf : β → Value} {P : Program} {kt : TypeId} (z : P.underlying kt = some .string) {l : List (ByteArray × β)} {es : Array MapEntry} {clock : Nat} (h : xo Value.string vf l es clock) (w : (l.map (·.1)).Nodup) (y : ∀ p ∈ l, p.1.size ≤ maxLen) (u : l.length ≤ maxLen) {W : World} {b : Nat} (t : W.heap[b]? = some (.map es clock)) : ∃ D : DataW Unit, W.ownsMap P kt (fun _ => some (.lit (.bool true), [])) b es.size D ∧ (strKeys D).Perm (l.map (fun p => p.1.data.toList)) ∧ Maps.size D = l.length := by
 have c := h.keys
 have m : ∀ x ∈ es.toList, ∃ s : ByteArray, x.key = .string s ∧ s.size ≤ maxLen := fun x i => by
  have h1 : x.key ∈ es.toList.map (·.key) := bI.2 ⟨x, i, rfl⟩
  rw [c] at h1
  obtain ⟨s, g, j⟩ := bI.1 h1
  obtain ⟨p, o, q⟩ := bI.1 g
  exact ⟨s, j.symm, by rw [← q]; exact y p o⟩
 have d : ∀ x ∈ es.toList, ∃ s : ByteArray, x.key = .string s ∧ Go.WideElems.rd (H := Unit) P kt (fun _ => some (.lit (.bool true), [])) x = some (.string s.data.toList, .lit (.bool true)) := fun x i => by
  obtain ⟨s, h1, g⟩ := m x i
  refine ⟨s, h1, ?_⟩
  simp [Go.WideElems.rd, keyOf, z, mapKey, h1, g]
 refine ⟨_, ⟨es, clock, t, ⟨by rw [h.length]; exact u, ⟨h.lt, ?_, ?_⟩, fun x i => ?_⟩, bD _, rfl⟩, ?_, ?_⟩
 ·have := h.born
  rw [List.Nodup, fG]
  exact this.imp (fun {a b} h => by omega)
 ·rw [c]
  rw [List.Nodup, fG]
  exact w.imp (fun {a b} k e => k (by injection e))
 ·obtain ⟨s, _, g⟩ := d x i
  exact ⟨_, g⟩
 ·have h1 := (sorted_perm (es.toList.map (Go.WideElems.rg (H := Unit) P kt (fun _ => some (.lit (.bool true), []))))).map (fun p => strOf p.1)
  refine List.Perm.trans h1 ?_
  have e : (es.toList.map (Go.WideElems.rg (H := Unit) P kt (fun _ => some (.lit (.bool true), [])))).map (fun p => strOf p.1) = l.map (fun p => p.1.data.toList) := by
   have n : (es.toList.map (Go.WideElems.rg (H := Unit) P kt (fun _ => some (.lit (.bool true), [])))).map (fun p => strOf p.1) = (es.toList.map (·.key)).map (fun v => match v with | .string s => s.data.toList | _ => []) := by
    rw [dT, dT]
    refine List.map_congr_left fun x i => ?_
    obtain ⟨s, g, j⟩ := d x i
    simp [Go.WideElems.rg, j, g, strOf]
   rw [n, c, dT, dT]
   rfl
  rw [e]
 ·have h1 := (sorted_perm (es.toList.map (Go.WideElems.rg (H := Unit) P kt (fun _ => some (.lit (.bool true), []))))).length_eq
  show (List.foldr DataW.insert [] _).length = _
  rw [h1, dB, ← h.length]
  simp
theorem Ms {l : List ByteArray} {g : List (List UInt8)} (h : g.Perm (l.map fun b => b.data.toList)) : g.mergeSort (fun x y => decide (x ≤ y)) = (pd l).map (fun b => b.data.toList) := by
 rw [M4]
 have le : ∀ a b c : List UInt8, decide (a ≤ b) = true → decide (b ≤ c) = true → decide (a ≤ c) = true := fun a b c h1 d => by
  simp only [bK] at *
  exact List.le_trans h1 d
 have tot : ∀ a b : List UInt8, (decide (a ≤ b) || decide (b ≤ a)) = true := fun a b => by
  simp only [dU, bK]
  exact List.le_total a b
 refine List.Perm.eq_of_pairwise (le := fun a b => decide (a ≤ b) = true) (fun a b _ _ h1 d => List.le_antisymm (by simpa using h1) (by simpa using d)) (gx le tot _) (gx le tot _) ?_
 exact (fZ _ _).trans (h.trans (fZ _ _).symm)
section
variable {P : Program} {ρk ρt ρm : Ren}
theorem OL (LK : SlLaysZ.n7 P ρk) (LT : SlLaysZ.n6 P ρt) (LM : SlLaysM.n6 P ρm) (h9 : ρt.f 9 = ρm.f 6) (hK : P.underlying (ρk.t 26) = some .string) (eg : ∀ args w, (callFunc (ρk.f 10) args).run P w = .ok (.enter (ρk.f 10) args) w) (es : ∀ args w, (callFunc (ρt.f 9) args).run P w = .ok (.enter (ρt.f 9) args) w) {β : Type} {vf : β → Value} {l : List (ByteArray × β)} {b : Nat} {mv : Value} {t : TypeId} {W : World} {r : List ByteArray} (u : W.heap[b]? = some (.cells #[mv] t (0, 0))) (hm : xp Value.string vf (hp W) mv l) (hk : Jz l = some r) :
  lT false P (ρt.f 6) [.func (.func (ρk.f 10)) #[] #[.pointer (some ⟨b, 0, none⟩)]] W (ρt.t 26) nu 1 r := by
 unfold Jz at hk
 split at hk
 case isFalse => cases hk
 rename_i hc
 obtain ⟨U, Y, Z⟩ := hc
 cases hk
 have i : b < W.heap.size := (cK.1 u).1
 have c : W.cell? ⟨b, 0, none⟩ = some mv := by simp [World.cell?, u]
 have q : AnyZ.SortsIn P ρt Fence.wide 4 :=
  ⟨fun M off cap d W hH hblk s => callsIn_wide.2 (by rw [h9]; exact AnyM.slices_Sort_string LM M off cap d W hH hblk s), fun p cap W => callsIn_wide.2 (by rw [h9]; exact AnyM.slices_Sort_string_none LM p cap W)⟩
 have I : SeqGives Fence.wide 2 P (ρk.f 10) #[.pointer (some ⟨b, 0, none⟩)] encStr (fun d => d.Perm ((l.map (·.1)).map fun b => b.data.toList)) l.length W := by
  rcases hm with ⟨rfl, rfl⟩ | ⟨m, es, clock, rfl, a7, A⟩
  ·have := AnyZ.keys_gives_nil (ρ := ρk) { LK with } Fence.wide 2 trivial rfl b W i c
   intro l' J W' R Q T L
   refine CallsIn.mono (this l' J W' R Q T L) ?_
   rintro e w' ⟨hv, d, rfl, hj⟩
   exact ⟨hv, [], du _, hj⟩
  ·obtain ⟨D, E, n, s⟩ := OU hK A U Y (by unfold maxLen; omega) a7
   have := AnyZ.keys_gives (ρ := ρk) { LK with } Fence.wide 2 trivial rfl (by omega) b m es.size D W i c E
   intro l' J W' R Q T L
   refine CallsIn.mono (this l' J W' R Q (by rw [s]; exact T) L) ?_
   rintro e w' ⟨hv, d, hp, hj⟩
   refine ⟨hv, d, ?_, hj⟩
   rw [dT]
   exact hp.trans n
 have cS := AnyZ.sorted_in LT Fence.wide 5 trivial trivial trivial trivial rfl (by omega) q es (ρk.f 10) #[.pointer (some ⟨b, 0, none⟩)] trivial eg _ l.length (by unfold maxLen; omega) Z W I
 refine cD (callsIn_wide.1 cS) ?_
 rintro e w' ⟨v, d, rfl, hS, G, aa, a⟩
 have hs := Ms hS
 have hlen : d.length = (pd (l.map (·.1))).length := by
  have := aU List.length hs
  simpa using this
 have k : (d.mergeSort (fun x y => decide (x ≤ y))).map encStr = ((pd (l.map (·.1))).map nu).flatten := by
  rw [hs, MR, dT]
  refine List.map_congr_left (fun x _ => ?_)
  simp only [Function.comp, encStr]
 rcases G.2 with ⟨rfl, L⟩ | ⟨g, cap, z, rfl, j, hg, ab, a1, a6, a8⟩
 ·have : pd (l.map (·.1)) = [] := bP (by omega)
  rw [this]
  exact ⟨_, [], rfl, sR.MJ ⟨a.os, a.tape, a.output, fun h => (by cases h), a.size, fun b u => a.block b u⟩ (fun _ _ h => by cases h) (by simp), kZ.nil _ _ _⟩
 ·refine ⟨_, [(g, .cells z (ρt.t 26) (0, 0))], rfl, sR.MJ ⟨a.os, a.tape, a.output, fun h => (by cases h), a.size, fun b u => a.block b u⟩ (fun b o h => by simp at h; obtain ⟨rfl, rfl⟩ := h; exact ⟨hg, j⟩) (by simp), .inr ⟨g, cap, z, by rw [hlen], rfl, by omega, a1, a6, ?_⟩⟩
  rw [← hlen, a8, k]
end
end Go.Proofs.YtbnbdigcbldfhaaGreat
namespace Go.Proofs.YtbnbdigcbldfhaaGreat
open Go.IntKind renaming wrap → wi0
def eG := @Tryz.underlying9
def eT := @Tryz.zeroValue9
def fi := @Tryz.underlying0
def fy := @Tryz.zeroValue0
def fO := @Tryz.underlying4
def fP := @Tryz.sizeOf9
def gd := @Tryz.zeroValue4
def gi := @Tryz.underlying215
def gj := @Tryz.underlying261
def gk := @Tryz.underlying262
def gl := @Tryz.underlying268
def gm := @Tryz.underlying270
def gn := @Tryz.underlying291
def gp := @Tryz.underlying295
def gq := @Tryz.underlying315
def gr := @Tryz.underlying142
def gy := @Tryz.isAgg9
def gI := @Tryz.sizeOf0
def gK := @Tryz.zeroValue215
def gL := @Tryz.zeroValue261
def gM := @Tryz.zeroValue262
def gN := @Tryz.underlying39
def gO := @Tryz.zeroValue268
def gP := @Tryz.zeroValue270
def gQ := @Tryz.zeroValue291
def gS := @Tryz.zeroValue295
def gT := @Tryz.zeroValue315
def gU := @Tryz.zeroValue142
def iu := @Tryz.underlying3
def iv := @Tryz.underlying5
def iw := @Tryz.zeroValue39
def iI := @Tryz.isAgg0
def iQ := @Tryz.zeroValue3
def iR := @Tryz.zeroValue5
def iY := @Tryz.sizeOf4
def jf := @Tryz.sizeOf215
def jg := @Tryz.sizeOf261
def jh := @Tryz.sizeOf262
def ji := @Tryz.sizeOf268
def jj := @Tryz.sizeOf270
def jk := @Tryz.sizeOf291
def jl := @Tryz.sizeOf295
def jm := @Tryz.sizeOf315
def jn := @Tryz.sizeOf142
def jo := @Tryz.underlying112
def jB := @Tryz.isAgg4
def jD := @Tryz.zeroValue112
def jL := @Tryz.isAgg215
def jM := @Tryz.isAgg261
def jN := @Tryz.isAgg262
def jO := @Tryz.sizeOf39
def jP := @Tryz.isAgg268
def jQ := @Tryz.isAgg270
def jR := @Tryz.isAgg291
def jS := @Tryz.isAgg295
def jT := @Tryz.isAgg315
def jU := @Tryz.isAgg142
def kc := @Tryz.sizeOf3
def kd := @Tryz.sizeOf5
def ke := @Tryz.isAgg39
def kq := @Tryz.isAgg3
def ku := @Tryz.isAgg5
def RI : Go.Shelf.Ren := ⟨fun | 6 => 116 | 15 => 179 | 14 => 178 | 28 => 225 | 29 => 226 | 20 => 217 | 21 => 218 | 22 => 219 | 23 => 220 | 24 => 221 | 25 => 222 | 26 => 223 | 27 => 224 | 46 => 255 | 47 => 256 | 48 => 257 | 49 => 258 | 50 => 259 | 57 => 290 | n => n, fun | 22 => 22 | 24 => 108 | 25 => 133 | 3 => 3 | 39 => 215 | 0 => 0 | 53 => 268 | 55 => 270 | 4 => 4 | 46 => 262 | 45 => 261 | 50 => 39 | 5 => 5 | 9 => 9 | 66 => 291 | 70 => 295 | 76 => 315 | 77 => 142 | n => n, fun | n => n⟩
theorem Xh : Go.Proofs.SlLaysF0.n6 Tryz.prog RI := {
 mixed := by kernel_rfl,
 f6 := ⟨Tryz.f116.name, by decide, Tryz.func116.trans (aU some (by kernel_rfl))⟩,
 f14 := ⟨Tryz.f178.name, by decide, Tryz.func178.trans (aU some (by kernel_rfl))⟩,
 f15 := Tryz.func179.trans (aU some (by kernel_rfl)),
 f20 := ⟨Tryz.f217.name, by decide, Tryz.func217.trans (aU some (by kernel_rfl))⟩,
 f21 := ⟨Tryz.f218.name, by decide, Tryz.func218.trans (aU some (by kernel_rfl))⟩,
 f22 := ⟨Tryz.f219.name, by decide, Tryz.func219.trans (aU some (by kernel_rfl))⟩,
 f23 := ⟨Tryz.f220.name, by decide, Tryz.func220.trans (aU some (by kernel_rfl))⟩,
 f24 := ⟨Tryz.f221.name, by decide, Tryz.func221.trans (aU some (by kernel_rfl))⟩,
 f25 := ⟨Tryz.f222.name, by decide, Tryz.func222.trans (aU some (by kernel_rfl))⟩,
 f26 := ⟨Tryz.f223.name, by decide, Tryz.func223.trans (aU some (by kernel_rfl))⟩,
 f27 := ⟨Tryz.f224.name, by decide, Tryz.func224.trans (aU some (by kernel_rfl))⟩,
 f28 := Tryz.func225.trans (aU some (by kernel_rfl)),
 f29 := Tryz.func226.trans (aU some (by kernel_rfl)),
 f46 := ⟨Tryz.f255.name, by decide, Tryz.func255.trans (aU some (by kernel_rfl))⟩,
 f47 := Tryz.func256.trans (aU some (by kernel_rfl)),
 f48 := Tryz.func257.trans (aU some (by kernel_rfl)),
 f49 := ⟨Tryz.f258.name, by decide, Tryz.func258.trans (aU some (by kernel_rfl))⟩,
 f50 := ⟨Tryz.f259.name, by decide, Tryz.func259.trans (aU some (by kernel_rfl))⟩,
 f57 := ⟨Tryz.f290.name, by decide, Tryz.func290.trans (aU some (by kernel_rfl))⟩,
 t0 := fi,
 a0 := iI,
 z0 := gI,
 v0 := fy,
 t3 := iu,
 a3 := kq,
 z3 := kc,
 v3 := iQ,
 t4 := fO,
 a4 := jB,
 z4 := iY,
 v4 := gd,
 t5 := iv,
 a5 := ku,
 z5 := kd,
 v5 := iR,
 t9 := eG,
 a9 := gy,
 z9 := fP,
 v9 := eT,
 t22 := Tryz.underlying22,
 a22 := Tryz.isAgg22,
 z22 := Tryz.sizeOf22,
 v22 := Tryz.zeroValue22,
 t25 := Tryz.underlying133,
 a25 := Tryz.isAgg133,
 z25 := Tryz.sizeOf133,
 v25 := Tryz.zeroValue133,
 t39 := gi,
 a39 := jL,
 z39 := jf,
 v39 := gK,
 t45 := gj,
 a45 := jM,
 z45 := jg,
 v45 := gL,
 t46 := gk,
 a46 := jN,
 z46 := jh,
 v46 := gM,
 t50 := gN,
 a50 := ke,
 z50 := jO,
 v50 := iw,
 t53 := gl,
 a53 := jP,
 z53 := ji,
 v53 := gO,
 t55 := gm,
 a55 := jQ,
 z55 := jj,
 v55 := gP,
 t66 := gn,
 a66 := jR,
 z66 := jk,
 v66 := gQ,
 t70 := gp,
 a70 := jS,
 z70 := jl,
 v70 := gS,
 t76 := gq,
 a76 := jT,
 z76 := jm,
 v76 := gT,
 t77 := gr,
 a77 := jU,
 z77 := jn,
 v77 := gU}
def SI : Go.Shelf.Ren := ⟨fun | 6 => 276 | 15 => 179 | 14 => 296 | 28 => 225 | 29 => 226 | 20 => 301 | 21 => 302 | 22 => 303 | 23 => 304 | 24 => 305 | 25 => 306 | 26 => 307 | 27 => 308 | 46 => 310 | 47 => 256 | 48 => 257 | 49 => 311 | 50 => 312 | 57 => 313 | n => n, fun | 22 => 34 | 24 => 28 | 25 => 118 | 3 => 3 | 39 => 215 | 0 => 0 | 53 => 268 | 55 => 270 | 4 => 4 | 46 => 262 | 45 => 261 | 50 => 39 | 5 => 5 | 9 => 9 | 66 => 291 | 70 => 295 | 76 => 315 | 77 => 142 | n => n, fun | n => n⟩
theorem WA : Go.Proofs.SlLaysF0.n6 Tryz.prog SI := {
 mixed := by kernel_rfl,
 f6 := ⟨Tryz.f276.name, by decide, Tryz.func276.trans (aU some (by kernel_rfl))⟩,
 f14 := ⟨Tryz.f296.name, by decide, Tryz.func296.trans (aU some (by kernel_rfl))⟩,
 f15 := Tryz.func179.trans (aU some (by kernel_rfl)),
 f20 := ⟨Tryz.f301.name, by decide, Tryz.func301.trans (aU some (by kernel_rfl))⟩,
 f21 := ⟨Tryz.f302.name, by decide, Tryz.func302.trans (aU some (by kernel_rfl))⟩,
 f22 := ⟨Tryz.f303.name, by decide, Tryz.func303.trans (aU some (by kernel_rfl))⟩,
 f23 := ⟨Tryz.f304.name, by decide, Tryz.func304.trans (aU some (by kernel_rfl))⟩,
 f24 := ⟨Tryz.f305.name, by decide, Tryz.func305.trans (aU some (by kernel_rfl))⟩,
 f25 := ⟨Tryz.f306.name, by decide, Tryz.func306.trans (aU some (by kernel_rfl))⟩,
 f26 := ⟨Tryz.f307.name, by decide, Tryz.func307.trans (aU some (by kernel_rfl))⟩,
 f27 := ⟨Tryz.f308.name, by decide, Tryz.func308.trans (aU some (by kernel_rfl))⟩,
 f28 := Tryz.func225.trans (aU some (by kernel_rfl)),
 f29 := Tryz.func226.trans (aU some (by kernel_rfl)),
 f46 := ⟨Tryz.f310.name, by decide, Tryz.func310.trans (aU some (by kernel_rfl))⟩,
 f47 := Tryz.func256.trans (aU some (by kernel_rfl)),
 f48 := Tryz.func257.trans (aU some (by kernel_rfl)),
 f49 := ⟨Tryz.f311.name, by decide, Tryz.func311.trans (aU some (by kernel_rfl))⟩,
 f50 := ⟨Tryz.f312.name, by decide, Tryz.func312.trans (aU some (by kernel_rfl))⟩,
 f57 := ⟨Tryz.f313.name, by decide, Tryz.func313.trans (aU some (by kernel_rfl))⟩,
 t0 := fi,
 a0 := iI,
 z0 := gI,
 v0 := fy,
 t3 := iu,
 a3 := kq,
 z3 := kc,
 v3 := iQ,
 t4 := fO,
 a4 := jB,
 z4 := iY,
 v4 := gd,
 t5 := iv,
 a5 := ku,
 z5 := kd,
 v5 := iR,
 t9 := eG,
 a9 := gy,
 z9 := fP,
 v9 := eT,
 t22 := Tryz.underlying34,
 a22 := Tryz.isAgg34,
 z22 := Tryz.sizeOf34,
 v22 := Tryz.zeroValue34,
 t25 := Tryz.underlying118,
 a25 := Tryz.isAgg118,
 z25 := Tryz.sizeOf118,
 v25 := Tryz.zeroValue118,
 t39 := gi,
 a39 := jL,
 z39 := jf,
 v39 := gK,
 t45 := gj,
 a45 := jM,
 z45 := jg,
 v45 := gL,
 t46 := gk,
 a46 := jN,
 z46 := jh,
 v46 := gM,
 t50 := gN,
 a50 := ke,
 z50 := jO,
 v50 := iw,
 t53 := gl,
 a53 := jP,
 z53 := ji,
 v53 := gO,
 t55 := gm,
 a55 := jQ,
 z55 := jj,
 v55 := gP,
 t66 := gn,
 a66 := jR,
 z66 := jk,
 v66 := gQ,
 t70 := gp,
 a70 := jS,
 z70 := jl,
 v70 := gS,
 t76 := gq,
 a76 := jT,
 z76 := jm,
 v76 := gT,
 t77 := gr,
 a77 := jU,
 z77 := jn,
 v77 := gU}
def Sh : Go.Shelf.Ren := ⟨fun | 6 => 182 | 8 => 179 | 9 => 229 | 19 => 225 | 20 => 226 | 21 => 260 | 22 => 261 | 23 => 262 | 24 => 263 | 25 => 264 | 26 => 265 | 27 => 266 | 28 => 267 | 29 => 268 | 36 => 291 | 31 => 256 | 32 => 257 | 37 => 292 | 38 => 293 | 39 => 294 | 41 => 300 | n => n, fun | 27 => 112 | 29 => 9 | 3 => 3 | 32 => 215 | 26 => 112 | 0 => 0 | 44 => 268 | 46 => 270 | 4 => 4 | 36 => 262 | 35 => 261 | 41 => 39 | 5 => 5 | 9 => 9 | 53 => 291 | 57 => 295 | 63 => 315 | 64 => 142 | n => n, fun | n => n⟩
theorem Te : Go.Proofs.SlLaysM.n6 Tryz.prog Sh := {
 mixed := by kernel_rfl,
 f6 := ⟨Tryz.f182.name, by decide, Tryz.func182.trans (aU some (by kernel_rfl))⟩,
 f8 := Tryz.func179.trans (aU some (by kernel_rfl)),
 f9 := ⟨Tryz.f229.name, by decide, Tryz.func229.trans (aU some (by kernel_rfl))⟩,
 f19 := Tryz.func225.trans (aU some (by kernel_rfl)),
 f20 := Tryz.func226.trans (aU some (by kernel_rfl)),
 f21 := ⟨Tryz.f260.name, by decide, Tryz.func260.trans (aU some (by kernel_rfl))⟩,
 f22 := ⟨Tryz.f261.name, by decide, Tryz.func261.trans (aU some (by kernel_rfl))⟩,
 f23 := ⟨Tryz.f262.name, by decide, Tryz.func262.trans (aU some (by kernel_rfl))⟩,
 f24 := ⟨Tryz.f263.name, by decide, Tryz.func263.trans (aU some (by kernel_rfl))⟩,
 f25 := ⟨Tryz.f264.name, by decide, Tryz.func264.trans (aU some (by kernel_rfl))⟩,
 f26 := ⟨Tryz.f265.name, by decide, Tryz.func265.trans (aU some (by kernel_rfl))⟩,
 f27 := ⟨Tryz.f266.name, by decide, Tryz.func266.trans (aU some (by kernel_rfl))⟩,
 f28 := ⟨Tryz.f267.name, by decide, Tryz.func267.trans (aU some (by kernel_rfl))⟩,
 f29 := ⟨Tryz.f268.name, by decide, Tryz.func268.trans (aU some (by kernel_rfl))⟩,
 f31 := Tryz.func256.trans (aU some (by kernel_rfl)),
 f32 := Tryz.func257.trans (aU some (by kernel_rfl)),
 f36 := ⟨Tryz.f291.name, by decide, Tryz.func291.trans (aU some (by kernel_rfl))⟩,
 f37 := ⟨Tryz.f292.name, by decide, Tryz.func292.trans (aU some (by kernel_rfl))⟩,
 f38 := ⟨Tryz.f293.name, by decide, Tryz.func293.trans (aU some (by kernel_rfl))⟩,
 f39 := ⟨Tryz.f294.name, by decide, Tryz.func294.trans (aU some (by kernel_rfl))⟩,
 f41 := ⟨Tryz.f300.name, by decide, Tryz.func300.trans (aU some (by kernel_rfl))⟩,
 t0 := fi,
 a0 := iI,
 z0 := gI,
 v0 := fy,
 t3 := iu,
 a3 := kq,
 z3 := kc,
 v3 := iQ,
 t4 := fO,
 a4 := jB,
 z4 := iY,
 v4 := gd,
 t5 := iv,
 a5 := ku,
 z5 := kd,
 v5 := iR,
 t9 := eG,
 a9 := gy,
 z9 := fP,
 v9 := eT,
 t26 := jo,
 a26 := Tryz.isAgg112,
 z26 := Tryz.sizeOf112,
 v26 := jD,
 t27 := jo,
 a27 := Tryz.isAgg112,
 z27 := Tryz.sizeOf112,
 v27 := jD,
 t29 := eG,
 a29 := gy,
 z29 := fP,
 v29 := eT,
 t32 := gi,
 a32 := jL,
 z32 := jf,
 v32 := gK,
 t35 := gj,
 a35 := jM,
 z35 := jg,
 v35 := gL,
 t36 := gk,
 a36 := jN,
 z36 := jh,
 v36 := gM,
 t41 := gN,
 a41 := ke,
 z41 := jO,
 v41 := iw,
 t44 := gl,
 a44 := jP,
 z44 := ji,
 v44 := gO,
 t46 := gm,
 a46 := jQ,
 z46 := jj,
 v46 := gP,
 t53 := gn,
 a53 := jR,
 z53 := jk,
 v53 := gQ,
 t57 := gp,
 a57 := jS,
 z57 := jl,
 v57 := gS,
 t63 := gq,
 a63 := jT,
 z63 := jm,
 v63 := gT,
 t64 := gr,
 a64 := jU,
 z64 := jn,
 v64 := gU}
def Vp : Go.Shelf.Ren := ⟨fun | 7 => 120 | 10 => 183 | n => n, fun | 23 => 175 | 26 => 9 | 3 => 4 | 28 => 180 | 0 => 0 | 27 => 179 | 33 => 194 | 4 => 4 | n => n, fun | n => n⟩
theorem Vo : Go.Proofs.SlLaysZ.n7 Tryz.prog Vp := {
 mixed := by kernel_rfl,
 f7 := ⟨Tryz.f120.name, by decide, Tryz.func120.trans (aU some (by kernel_rfl))⟩,
 f10 := ⟨Tryz.f183.name, by decide, Tryz.func183.trans (aU some (by kernel_rfl))⟩,
 t0 := fi,
 a0 := iI,
 z0 := gI,
 v0 := fy,
 t4 := fO,
 a4 := jB,
 z4 := iY,
 v4 := gd,
 t23 := Tryz.underlying175,
 a23 := Tryz.isAgg175,
 z23 := Tryz.sizeOf175,
 v23 := Tryz.zeroValue175,
 t26 := eG,
 a26 := gy,
 z26 := fP,
 v26 := eT,
 t27 := Tryz.underlying179,
 a27 := Tryz.isAgg179,
 z27 := Tryz.sizeOf179,
 v27 := Tryz.zeroValue179,
 t28 := Tryz.underlying180,
 a28 := Tryz.isAgg180,
 z28 := Tryz.sizeOf180,
 v28 := Tryz.zeroValue180,
 t33 := Tryz.underlying194,
 a33 := Tryz.isAgg194,
 z33 := Tryz.sizeOf194,
 v33 := Tryz.zeroValue194}
def VS : Go.Shelf.Ren := ⟨fun | 6 => 119 | 8 => 181 | 9 => 182 | 11 => 228 | 13 => 179 | 12 => 229 | 23 => 225 | 24 => 226 | 14 => 260 | 15 => 261 | 16 => 262 | 17 => 263 | 18 => 264 | 19 => 265 | 20 => 266 | 21 => 267 | 22 => 268 | 25 => 291 | 26 => 256 | 27 => 257 | 28 => 292 | 29 => 293 | 30 => 294 | 31 => 300 | n => n, fun | 26 => 9 | 28 => 180 | 24 => 112 | 0 => 0 | 3 => 3 | 37 => 215 | 48 => 268 | 50 => 270 | 4 => 4 | 40 => 262 | 39 => 261 | 45 => 39 | 5 => 5 | 9 => 9 | 51 => 291 | 55 => 295 | 57 => 315 | 58 => 142 | 33 => 194 | n => n, fun | n => n⟩
theorem Wd : Go.Proofs.SlLaysZ.n6 Tryz.prog VS := {
 mixed := by kernel_rfl,
 f6 := ⟨Tryz.f119.name, by decide, Tryz.func119.trans (aU some (by kernel_rfl))⟩,
 f8 := ⟨Tryz.f181.name, by decide, Tryz.func181.trans (aU some (by kernel_rfl))⟩,
 f11 := ⟨Tryz.f228.name, by decide, Tryz.func228.trans (aU some (by kernel_rfl))⟩,
 t0 := fi,
 a0 := iI,
 z0 := gI,
 v0 := fy,
 t24 := jo,
 a24 := Tryz.isAgg112,
 z24 := Tryz.sizeOf112,
 v24 := jD,
 t26 := eG,
 a26 := gy,
 z26 := fP,
 v26 := eT,
 t28 := Tryz.underlying180,
 a28 := Tryz.isAgg180,
 z28 := Tryz.sizeOf180,
 v28 := Tryz.zeroValue180,
 i26 := by kernel_rfl}
def Se : Go.Shelf.Ren := ⟨fun | 6 => 195 | 15 => 179 | 14 => 244 | 28 => 225 | 29 => 226 | 20 => 278 | 21 => 279 | 22 => 280 | 23 => 281 | 24 => 282 | 25 => 283 | 26 => 284 | 27 => 285 | 46 => 297 | 47 => 256 | 48 => 257 | 49 => 298 | 50 => 299 | 57 => 309 | n => n, fun | 22 => 99 | 24 => 34 | 25 => 246 | 3 => 3 | 39 => 215 | 0 => 0 | 53 => 268 | 55 => 270 | 4 => 4 | 46 => 262 | 45 => 261 | 50 => 39 | 5 => 5 | 9 => 9 | 66 => 291 | 70 => 295 | 76 => 315 | 77 => 142 | n => n, fun | n => n⟩
theorem Xa : Go.Proofs.SlLaysF.n6 Tryz.prog Se := {
 mixed := by kernel_rfl,
 f6 := ⟨Tryz.f195.name, by decide, Tryz.func195.trans (aU some (by kernel_rfl))⟩,
 f14 := ⟨Tryz.f244.name, by decide, Tryz.func244.trans (aU some (by kernel_rfl))⟩,
 f15 := Tryz.func179.trans (aU some (by kernel_rfl)),
 f20 := ⟨Tryz.f278.name, by decide, Tryz.func278.trans (aU some (by kernel_rfl))⟩,
 f21 := ⟨Tryz.f279.name, by decide, Tryz.func279.trans (aU some (by kernel_rfl))⟩,
 f22 := ⟨Tryz.f280.name, by decide, Tryz.func280.trans (aU some (by kernel_rfl))⟩,
 f23 := ⟨Tryz.f281.name, by decide, Tryz.func281.trans (aU some (by kernel_rfl))⟩,
 f24 := ⟨Tryz.f282.name, by decide, Tryz.func282.trans (aU some (by kernel_rfl))⟩,
 f25 := ⟨Tryz.f283.name, by decide, Tryz.func283.trans (aU some (by kernel_rfl))⟩,
 f26 := ⟨Tryz.f284.name, by decide, Tryz.func284.trans (aU some (by kernel_rfl))⟩,
 f27 := ⟨Tryz.f285.name, by decide, Tryz.func285.trans (aU some (by kernel_rfl))⟩,
 f28 := Tryz.func225.trans (aU some (by kernel_rfl)),
 f29 := Tryz.func226.trans (aU some (by kernel_rfl)),
 f46 := ⟨Tryz.f297.name, by decide, Tryz.func297.trans (aU some (by kernel_rfl))⟩,
 f47 := Tryz.func256.trans (aU some (by kernel_rfl)),
 f48 := Tryz.func257.trans (aU some (by kernel_rfl)),
 f49 := ⟨Tryz.f298.name, by decide, Tryz.func298.trans (aU some (by kernel_rfl))⟩,
 f50 := ⟨Tryz.f299.name, by decide, Tryz.func299.trans (aU some (by kernel_rfl))⟩,
 f57 := ⟨Tryz.f309.name, by decide, Tryz.func309.trans (aU some (by kernel_rfl))⟩,
 t0 := fi,
 a0 := iI,
 z0 := gI,
 v0 := fy,
 t3 := iu,
 a3 := kq,
 z3 := kc,
 v3 := iQ,
 t4 := fO,
 a4 := jB,
 z4 := iY,
 v4 := gd,
 t5 := iv,
 a5 := ku,
 z5 := kd,
 v5 := iR,
 t9 := eG,
 a9 := gy,
 z9 := fP,
 v9 := eT,
 t22 := Tryz.underlying99,
 a22 := Tryz.isAgg99,
 z22 := Tryz.sizeOf99,
 v22 := Tryz.zeroValue99,
 a24 := Tryz.isAgg34,
 z24 := Tryz.sizeOf34,
 t25 := Tryz.underlying246,
 a25 := Tryz.isAgg246,
 z25 := Tryz.sizeOf246,
 v25 := Tryz.zeroValue246,
 t39 := gi,
 a39 := jL,
 z39 := jf,
 v39 := gK,
 t45 := gj,
 a45 := jM,
 z45 := jg,
 v45 := gL,
 t46 := gk,
 a46 := jN,
 z46 := jh,
 v46 := gM,
 t50 := gN,
 a50 := ke,
 z50 := jO,
 v50 := iw,
 t53 := gl,
 a53 := jP,
 z53 := ji,
 v53 := gO,
 t55 := gm,
 a55 := jQ,
 z55 := jj,
 v55 := gP,
 t66 := gn,
 a66 := jR,
 z66 := jk,
 v66 := gQ,
 t70 := gp,
 a70 := jS,
 z70 := jl,
 v70 := gS,
 t76 := gq,
 a76 := jT,
 z76 := jm,
 v76 := gT,
 t77 := gr,
 a77 := jU,
 z77 := jn,
 v77 := gU}
end Go.Proofs.YtbnbdigcbldfhaaGreat
namespace Go.Proofs.YtbnbdigcbldfhaaGreat
open Go.IntKind renaming wrap → wi0
open Go.RowKit
set_option maxRecDepth 10000
noncomputable section
structure kA where
 kI : ByteArray
 kU : ByteArray
def kC (x : kA) : List Value := [.string x.kI, .string x.kU]
def kQ (x y : kA) : Bool := (mh x.kI y.kI) && ((mh x.kU y.kU) && true)
theorem kP {x y : kA} : kQ x y = true ↔ x = y := by
 cases x; cases y; simp [kQ, mO]
theorem my (x : kA) : (kC x).length = 2 := rfl
theorem mH (x : kA) : ∀ u ∈ kC x, u.oneCell' = true := by
 intro u hu
 simp only [kC, aQ, da, fh] at hu
 rcases hu with rfl | rfl <;> rfl
structure kB where
 Kind : Int
 Head : kA
 ly : ByteArray
 B : kA
 C : kA
 lU : ByteArray
def kG (x : kB) : List Value := [.int .i64 x.Kind, .string x.Head.kI, .string x.Head.kU, .string x.ly, .string x.B.kI, .string x.B.kU, .string x.C.kI, .string x.C.kU, .string x.lU]
def oP (x y : kB) : Bool := (x.Kind == y.Kind) && ((kQ x.Head y.Head) && ((mh x.ly y.ly) && ((kQ x.B y.B) && ((kQ x.C y.C) && ((mh x.lU y.lU) && true)))))
theorem xj {x y : kB} : oP x y = true ↔ x = y := by
 cases x; cases y; simp [oP, mO, kP]
theorem mT (x : kB) : (kG x).length = 9 := rfl
theorem nQ (x : kB) : ∀ u ∈ kG x, u.oneCell' = true := by
 intro u hu
 simp only [kG, aQ, da, fh] at hu
 rcases hu with rfl | rfl | rfl | rfl | rfl | rfl | rfl | rfl | rfl <;> rfl
structure kF where
 kA : kA
 ly : ByteArray
def kO (x : kF) : List Value := [.string x.kA.kI, .string x.kA.kU, .string x.ly]
def nq (x y : kF) : Bool := (kQ x.kA y.kA) && ((mh x.ly y.ly) && true)
theorem mL {x y : kF} : nq x y = true ↔ x = y := by
 cases x; cases y; simp [nq, mO, kP]
theorem nA (x : kF) : (kO x).length = 3 := rfl
theorem wA (x : kF) : ∀ u ∈ kO x, u.oneCell' = true := by
 intro u hu
 simp only [kO, aQ, da, fh] at hu
 rcases hu with rfl | rfl | rfl <;> rfl
structure kY where
 kB : kB
 kF : kF
def lf (x : kY) : List Value := [.int .i64 x.kB.Kind, .string x.kB.Head.kI, .string x.kB.Head.kU, .string x.kB.ly, .string x.kB.B.kI, .string x.kB.B.kU, .string x.kB.C.kI, .string x.kB.C.kU, .string x.kB.lU, .string x.kF.kA.kI, .string x.kF.kA.kU, .string x.kF.ly]
def Dj (x y : kY) : Bool := (oP x.kB y.kB) && ((nq x.kF y.kF) && true)
theorem IH {x y : kY} : Dj x y = true ↔ x = y := by
 cases x; cases y; simp [Dj, mO, xj, mL]
theorem oV (x : kY) : (lf x).length = 12 := rfl
theorem uH (x : kY) : ∀ u ∈ lf x, u.oneCell' = true := by
 intro u hu
 simp only [lf, aQ, da, fh] at hu
 rcases hu with rfl | rfl | rfl | rfl | rfl | rfl | rfl | rfl | rfl | rfl | rfl | rfl <;> rfl
structure Vh where
 ZS : Int
 ZT : Int
structure nx where
 e : Int
structure Key where
 ly : ByteArray
 Key : List Int
structure Signed where
 kB : kB
 Tag : List Int
structure Formula where
 Op : Int
 K : Int
 kA : kA
 Kids : List Formula
structure nR where
 Signed : Signed
 lp : Formula
structure uJ where
 kA : kA
 lp : Formula
 qE : List kB
structure mg where
 Name : ByteArray
 mY : List nR
 oX : List uJ
structure Oj where
 kI : mg
 Client : mg
 Formula : Formula
 WB : Int
 U2 : Vh
 PZ : Int
 UE : Int
 RS : Int
 Keys : List Key
structure ur where
 mg : mg
 od : ByteArray
 Room : Int
 lL : List kB
 Shown : List kB
 mG : List kA
 sI : List kA
def py (a0 : ByteArray) (a : Int) : Option Int :=
 some (zJ a0 a)
def tm (a0 : ByteArray) (a : Int) : Option Int :=
 ((py a0 a).bind fun c => some c)
def xB  : List Int → Option Bool
 | [] => some true
 | d :: a => ((tm (⟨#[97, 98, 99, 100, 101, 102, 103, 104, 105, 106, 107, 108, 109, 110, 111, 112, 113, 114, 115, 116, 117, 118, 119, 120, 121, 122, 48, 49, 50, 51, 52, 53, 54, 55, 56, 57, 45]⟩ : ByteArray) d).bind fun c => (if (decide (c < 0)) then some false else (xB a)))
def EJ (a0 : ByteArray) : Option Bool :=
 ((FK a0).bind fun a => xB a)
def qm (a0 : ByteArray) : Option Bool :=
 ((if (decide ((a0.size : Int) ≥ 1)) then some (decide ((a0.size : Int) ≤ 16)) else some false).bind fun x2 => ((if x2 then ((CB a0 0).bind fun a => ((tm (⟨#[97, 98, 99, 100, 101, 102, 103, 104, 105, 106, 107, 108, 109, 110, 111, 112, 113, 114, 115, 116, 117, 118, 119, 120, 121, 122]⟩ : ByteArray) (a.toNat : Int)).bind fun d => some (decide (d ≥ 0)))) else some false).bind fun g => ((if g then ((EJ a0).bind fun c => some c) else some false).bind fun h => some h)))
def pL (a0 : List Int) : Option (List Int) :=
 ((mM 1 ([]) a0).bind fun a => some a)
def pF (a0 : kA) : Option Bool :=
 ((qm a0.kI).bind fun d => ((if d then ((qm a0.kU).bind fun a => some a) else some false).bind fun c => some c))
def nI (a0 a : ByteArray) : Option Int :=
 some (oH a0 a)
def pQ (a0 a : ByteArray) : Option Int :=
 ((nI a0 a).bind fun c => some c)
def pk  : List Int → Option Int
 | [] => some 0
 | a :: c => (if (a != 0) then some a else (pk c))
def sv (a0 : List Int) : Option Int :=
 pk a0
def nB (a0 g : kA) : Option Int :=
 ((pQ a0.kI g.kI).bind fun a => ((pQ a0.kU g.kU).bind fun c => ((sv ([a, c])).bind fun d => some d)))
def pI (a0 : kB) : Option Bool :=
 ((pF a0.Head).bind fun A => (((if (a0.Kind == 1) then ((if A then ((qm a0.ly).bind fun c => some c) else some false).bind fun q => some (Sum.inr (q, (⟨a0.Kind, a0.Head, a0.ly, (⟨zS, zS⟩ : kA), (⟨zS, zS⟩ : kA), zS⟩ : kB)))) else (if (a0.Kind == 2) then ((if A then ((pF a0.B).bind fun d => some d) else some false).bind fun t => some (Sum.inr (t, (⟨a0.Kind, a0.Head, zS, a0.B, (⟨zS, zS⟩ : kA), zS⟩ : kB)))) else (if (a0.Kind == 3) then ((if A then ((pF a0.B).bind fun h => some h) else some false).bind fun u => ((if u then some (mh a0.B.kI a0.Head.kI) else some false).bind fun v => ((if v then ((qm a0.lU).bind fun g => some g) else some false).bind fun w => some (Sum.inr (w, (⟨a0.Kind, a0.Head, zS, a0.B, (⟨zS, zS⟩ : kA), a0.lU⟩ : kB)))))) else (if (a0.Kind == 4) then ((if A then ((pF a0.B).bind fun k => some k) else some false).bind fun x => ((if x then ((pF a0.C).bind fun j => some j) else some false).bind fun y => ((if y then ((nB a0.B a0.C).bind fun i => some (decide (i < 0))) else some false).bind fun z => some (Sum.inr (z, (⟨a0.Kind, a0.Head, zS, a0.B, a0.C, zS⟩ : kB)))))) else some (Sum.inl false))))) : Option (Bool ⊕ (Bool × kB))).bind fun s => match s with | .inl a => some a | .inr (m, n) => ((if m then some (oP n a0) else some false).bind fun o => some o)))
def oN  : Nat → Int → (List Int) → Option (Bool × (List Int))
 | 0, _, _ => none
 | h + 1, a, d => (if (decide (a ≥ 128)) then ((mM 1 d ([(IntKind.u8.wrap (BitVec.ofInt (IntKind.bits .u8) (IntKind.u8.wrap a) ||| BitVec.ofInt (IntKind.bits .u8) 128).toNat)])).bind fun g => (oN h (Int.fdiv a (2 ^ min (Int.toNat 7) (IntKind.bits .i64))) g)) else ((mM 1 d ([(IntKind.u8.wrap a)])).bind fun c => some (true, c)))
def mZ (a : List Int) (c : Int) : Option (Bool × (List Int)) :=
 (if (decide (c < 0)) then some (false, a) else oN lE c a)
def xt (a c : List Int) : Option (Bool × (List Int)) :=
 (if (decide ((c.length : Int) > 2048)) then some (false, a) else ((mZ a (c.length : Int)).bind fun g => ((mM 1 g.2 c).bind fun d => some (true, d))))
def rA (a : List Int) (i : ByteArray) : Option (Bool × (List Int)) :=
 ((qm i).bind fun j => (((if j then ((FK i).bind fun g => ((xt a g).bind fun c => some (c.1, c.2))) else some (false, a)) : Option (Bool × (List Int))).bind fun (h, d) => some (h, d)))
def pc (a : List Int) (h : kA) : Option (Bool × (List Int)) :=
 ((pF h).bind fun m => (((if m then ((rA a h.kI).bind fun g => some (g.1, g.2)) else some (false, a)) : Option (Bool × (List Int))).bind fun (j, c) => (((if j then ((rA c h.kU).bind fun d => some (d.1, d.2)) else some (false, c)) : Option (Bool × (List Int))).bind fun (k, i) => some (k, i))))
def qo (a : List Int) : Option (List Int) :=
 ((pL a).bind fun c => some c)
def vV (a0 : kB) : Option (List Int) :=
 ((pI a0).bind fun n => (if (!n) then some [] else ((mZ ([]) a0.Kind).bind fun o => ((pc o.2 a0.Head).bind fun a => (((if (a0.Kind == 1) then ((rA a.2 a0.ly).bind fun g => some g.2) else (if (a0.Kind == 2) then ((pc a.2 a0.B).bind fun h => some h.2) else (if (a0.Kind == 3) then ((pc a.2 a0.B).bind fun i => ((rA i.2 a0.lU).bind fun j => some j.2)) else (if (a0.Kind == 4) then ((pc a.2 a0.B).bind fun k => ((pc k.2 a0.C).bind fun m => some m.2)) else some a.2)))) : Option (List Int)).bind fun c => ((qo c).bind fun d => some d))))))
def tl (a0 : List kB) : Option (List kB) :=
 ((mM 136 ([]) a0).bind fun a => some a)
def pB (f1 : kB → Option Bool) : List kB → Nat → Option Int
 | [], _ => some (-1)
 | d :: a, i35 => ((f1 d).bind fun c => (if c then some (i35 : Int) else (pB f1 a (i35 + 1))))
def wo (a0 : List kB) (f1 : kB → Option Bool) : Option Int :=
 pB f1 a0 0
def oh (f1 : kB → Option Bool) : Nat → (List kB) → Int → Int → Option (List kB)
 | 0, _, _, _ => none
 | n321 + 1, c, a, d => (if (decide (d < (c.length : Int))) then ((((mC c d).bind fun g => ((f1 g).bind fun i => (if (!i) then ((mC c a).bind fun k => some ((c.set (Int.toNat a) g), (wi0 .i64 (a + 1)))) else some (c, a)))) : Option ((List kB) × Int)).bind fun (h, j) => (oh f1 n321 h j (wi0 .i64 (d + 1)))) else ((nM (decide (0 ≤ a) && decide (a ≤ (c.length : Int)))).bind fun _ => ((nM (decide (0 ≤ a) && decide (a ≤ ((oI c (Int.toNat a) (⟨0, (⟨zS, zS⟩ : kA), zS, (⟨zS, zS⟩ : kA), (⟨zS, zS⟩ : kA), zS⟩ : kB)).length : Int)))).bind fun _ => some ((oI c (Int.toNat a) (⟨0, (⟨zS, zS⟩ : kA), zS, (⟨zS, zS⟩ : kA), (⟨zS, zS⟩ : kA), zS⟩ : kB)).take (Int.toNat a)))))
def sC (a0 : List kB) (f1 : kB → Option Bool) : Option (List kB) :=
 ((wo a0 f1).bind fun a => (if (a == (-1)) then some a0 else oh f1 lE a0 a (wi0 .i64 (a + 1))))
def Ap (a0 : kB) : Option Bool :=
 ((pI a0).bind fun a => some (!a))
def Br (a0 a : List Int) : Option Int :=
 some (AR a0 a)
def vJ (a0 g : kB) : Option Int :=
 ((vV a0).bind fun a => ((vV g).bind fun c => ((Br a c).bind fun d => some d)))
def pa (c : Int) : Nat → (List kB) → Int → Int → Option ((List kB) × Int)
 | 0, _, _, _ => none
 | i + 1, a, d, g => (if (decide (g < ((a.length - (Int.toNat c) : Nat) : Int))) then ((((mC (a.drop (Int.toNat c)) g).bind fun k => ((mC (a.drop (Int.toNat c)) (wi0 .i64 (g - 1))).bind fun m => (if (!(oP k m)) then ((mC (a.drop (Int.toNat c)) g).bind fun n => ((mC a d).bind fun o => some ((a.set (Int.toNat d) n), (wi0 .i64 (d + 1))))) else some (a, d)))) : Option ((List kB) × Int)).bind fun (h, j) => (pa c i h j (wi0 .i64 (g + 1)))) else some (a, d))
def pg (a0 : List kB) : Nat → Int → Option (List kB)
 | 0, _ => none
 | g + 1, a => (if (decide (a < (a0.length : Int))) then ((mC a0 a).bind fun h => ((mC a0 (wi0 .i64 (a - 1))).bind fun i => (if (oP h i) then ((nM (decide (0 ≤ a) && decide (a ≤ (a0.length : Int)))).bind fun _ => ((pa a lE a0 a 1).bind fun (d, c) => ((nM (decide (0 ≤ c) && decide (c ≤ (d.length : Int)))).bind fun _ => ((nM (decide (0 ≤ c) && decide (c ≤ ((oI d (Int.toNat c) (⟨0, (⟨zS, zS⟩ : kA), zS, (⟨zS, zS⟩ : kA), (⟨zS, zS⟩ : kA), zS⟩ : kB)).length : Int)))).bind fun _ => some ((oI d (Int.toNat c) (⟨0, (⟨zS, zS⟩ : kA), zS, (⟨zS, zS⟩ : kA), (⟨zS, zS⟩ : kA), zS⟩ : kB)).take (Int.toNat c)))))) else (pg a0 g (wi0 .i64 (a + 1)))))) else some a0)
def uG (a0 : List kB) : Option (List kB) :=
 (if (decide ((a0.length : Int) < 2)) then some a0 else pg a0 lE 1)
def Bi (a0 : List kB) : Option (List kB) :=
 ((tl a0).bind fun g => ((sC g (fun (x : kB) => Ap x)).bind fun a => ((yF (fun (x : (kB × kB)) => vJ x.1 x.2) a).bind fun c => ((uG c).bind fun d => some d))))
def ra (d : kB) : List kB → Nat → Option Int
 | [], _ => some (-1)
 | c :: a, i46 => (if (oP d c) then some (i46 : Int) else (ra d a (i46 + 1)))
def yx (a0 : List kB) (a : kB) : Option Int :=
 ra a a0 0
def xh (a0 : List kB) (a : kB) : Option Bool :=
 ((yx a0 a).bind fun c => some (decide (c ≥ 0)))
def zI (a0 : List kB) (a : kB) : Option Bool :=
 ((xh a0 a).bind fun c => some c)
def Bd (a0 : kB) : Option (List kA) :=
 ((pI a0).bind fun h => (if (!h) then some [] else (((if (a0.Kind != 1) then ((mM 32 ([a0.Head]) ([a0.B])).bind fun g => some g) else some ([a0.Head])) : Option (List kA)).bind fun a => (((if (a0.Kind == 4) then ((mM 32 a ([a0.C])).bind fun d => some d) else some a) : Option (List kA)).bind fun c => some c))))
def pv (i : kB) (a : List (ByteArray × (List kB))) (g : List kB) : List kA → (List (kA × (List kB))) → Option ((List kB) × (List (kA × (List kB))) × (List (ByteArray × (List kB))))
 | [], c => (if (i.Kind == 3) then ((mM 136 ((mo mh a i.lU).getD []) ([i])).bind fun k => some (g, c, (ow mh a i.lU k))) else some (g, c, a))
 | d :: h, c => ((mM 136 ((mo kQ c d).getD []) ([i])).bind fun j => (pv i a g h (ow kQ c d j)))
def vx (i : List (kA × (List (ByteArray × Bool)))) (a : List kB) (d : List (kA × (List kB))) (c : List (ByteArray × (List kB))) (g : List kF) (m : Int) (j : kB) : Option ((List kB) × (List (kA × (List kB))) × (List (ByteArray × (List kB)))) :=
 ((mM 136 a ([j])).bind fun k => ((Bd j).bind fun h => ((nM (decide (0 ≤ 1) && decide (1 ≤ (h.length : Int)))).bind fun _ => pv j c k (h.drop (Int.toNat 1)) d)))
def oJ (a : List (kA × (List (ByteArray × Bool)))) (g : List kB) (i : List (kA × (List kB))) (h : List (ByteArray × (List kB))) (c : List kF) (d : Int) (j : kA) (a2 : ByteArray) : Option ((List (kA × (List (ByteArray × Bool)))) × (List kF) × Int) :=
 (if (zD mh ((mo kQ a j).getD []) a2 false) then some (a, c, d) else (((if (mo kQ a j).isNone then ((Jm kQ a j ([])).bind fun k => some k) else some a) : Option (List (kA × (List (ByteArray × Bool))))).bind fun m => ((IY kQ mh m j a2 true).bind fun n => ((mM 48 c ([(⟨j, a2⟩ : kF)])).bind fun o => some (n, o, (wi0 .i64 (d + 1)))))))
def pJ (a0 : List (ByteArray × Bool)) : Option Unit :=
 some ()
def sd (a : List (kA × (List (ByteArray × Bool)))) (c : List kB) (h : List (kA × (List kB))) (d : List (ByteArray × (List kB))) (g : List kF) (j : Int) (k : kA) : Option (List ByteArray) :=
 ((pJ ((mo kQ a k).getD [])).bind fun m => ((Jz ((mo kQ a k).getD [])).bind fun i => some i))
def rk (a : List kB) (d : List (kA × (List kB))) (c : List (ByteArray × (List kB))) (a2 : kA) : List ByteArray → (List (kA × (List (ByteArray × Bool)))) → (List kF) → Int → Option ((List (kA × (List (ByteArray × Bool)))) × (List kF) × Int)
 | [], g, h, j => some (g, h, j)
 | m :: k, g, h, j => ((oJ g a d c h j a2 m).bind fun i => (rk a d c a2 k i.1 i.2.1 i.2.2))
def wj (h : List (kA × (List (ByteArray × Bool)))) (a : List kB) (g : List (kA × (List kB))) (c : List (ByteArray × (List kB))) (d : List kF) (i : Int) (j a2 : kA) : Option ((List (kA × (List (ByteArray × Bool)))) × (List kF) × Int) :=
 ((sd h a g c d i j).bind fun k => rk a g c a2 k h d i)
def tk (a : List (kA × (List (ByteArray × Bool)))) (d : List kB) (h : List (kA × (List kB))) (g : List (ByteArray × (List kB))) (c : List kF) (i : Int) (j : kB) (a2 : kF) : Option ((List (kA × (List (ByteArray × Bool)))) × (List kF) × Int) :=
 (if (j.Kind == 2) then ((oJ a d h g c i j.Head a2.ly).bind fun n => some (n.1, n.2.1, n.2.2)) else (if (j.Kind == 3) then ((wj a d h g c i (⟨a2.ly, j.lU⟩ : kA) j.Head).bind fun k => some (k.1, k.2.1, k.2.2)) else (if (j.Kind == 4) then ((if (zD mh ((mo kQ a j.B).getD []) a2.ly false) then some (zD mh ((mo kQ a j.C).getD []) a2.ly false) else some false).bind fun o => (if o then ((oJ a d h g c i j.Head a2.ly).bind fun m => some (m.1, m.2.1, m.2.2)) else some (a, c, i))) else some (a, c, i))))
def qe (a : List kB) (d : List (kA × (List kB))) (c : List (ByteArray × (List kB))) (n : kB) : List ByteArray → (List (kA × (List (ByteArray × Bool)))) → (List kF) → Int → Option ((List (kA × (List (ByteArray × Bool)))) × (List kF) × Int)
 | [], g, h, j => some (g, h, j)
 | m :: k, g, h, j => ((tk g a d c h j n (⟨n.B, m⟩ : kF)).bind fun i => (qe a d c n k i.1 i.2.1 i.2.2))
def uE (h : List (kA × (List (ByteArray × Bool)))) (a : List kB) (g : List (kA × (List kB))) (c : List (ByteArray × (List kB))) (d : List kF) (i : Int) (j : kB) : Option ((List (kA × (List (ByteArray × Bool)))) × (List kF) × Int) :=
 (if (j.Kind == 1) then ((oJ h a g c d i j.Head j.ly).bind fun m => some (m.1, m.2.1, m.2.2)) else ((sd h a g c d i j.B).bind fun k => qe a g c j k h d i))
def oO (i : kF) (a : List kB) (d : List (kA × (List kB))) (c : List (ByteArray × (List kB))) : List kB → (List (kA × (List (ByteArray × Bool)))) → (List kF) → Int → Option ((List (kA × (List (ByteArray × Bool)))) × (List kF) × Int)
 | [], g, h, j => some (g, h, j)
 | n :: m, g, h, j => (if (zD mh ((mo kQ g n.B).getD []) i.kA.kI false) then ((oJ g a d c h j n.Head i.ly).bind fun k => (oO i a d c m k.1 k.2.1 k.2.2)) else (oO i a d c m g h j))
def pV (a : List kB) (d : List (kA × (List kB))) (c : List (ByteArray × (List kB))) (k : kF) : List kB → (List (kA × (List (ByteArray × Bool)))) → (List kF) → Int → Option ((List (kA × (List (ByteArray × Bool)))) × (List kF) × Int)
 | [], g, h, j => some (g, h, j)
 | n :: m, g, h, j => ((tk g a d c h j n k).bind fun i => (pV a d c k m i.1 i.2.1 i.2.2))
def nV (d : List kB) (c : List (kA × (List kB))) (a : List (ByteArray × (List kB))) : Nat → (List (kA × (List (ByteArray × Bool)))) → (List kF) → Int → Option ((List (kA × (List (ByteArray × Bool)))) × (List kF) × Int)
 | 0, _, _, _ => none
 | q + 1, i, g, j => (if (decide ((g.length : Int) > 0)) then ((mC g 0).bind fun h => ((nM (decide (0 ≤ 1) && decide (1 ≤ (g.length : Int)))).bind fun _ => ((pV d c a h ((mo kQ c h.kA).getD []) i (g.drop (Int.toNat 1)) j).bind fun (k, m, s) => ((oO h d c a ((mo mh a h.kA.kU).getD []) k m s).bind fun (n, o, t) => (nV d c a q n o t))))) else some (i, g, j))
def xe (h : List (kA × (List (ByteArray × Bool)))) (a : List kB) (g : List (kA × (List kB))) (c : List (ByteArray × (List kB))) (d : List kF) (i : Int) : Option ((List (kA × (List (ByteArray × Bool)))) × (List kF) × Int) :=
 nV a g c lE h d i
def oL (n : Int) : List kB → (List (kA × (List (ByteArray × Bool)))) → (List kB) → (List (kA × (List kB))) → (List (ByteArray × (List kB))) → (List kF) → Int → Option (Int × (List (kA × (List (ByteArray × Bool)))) × (List kB) × (List (kA × (List kB))) × (List (ByteArray × (List kB))) × (List kF) × Int)
 | [], d, a, g, h, i, j => ((xe d a g h i j).bind fun k => some ((wi0 .i64 (k.2.2 - n)), k.1, a, g, h, k.2.1, k.2.2))
 | m :: q, d, a, g, h, i, j => ((pI m).bind fun s => ((if s then ((zI a m).bind fun t => some (!t)) else some false).bind fun u => (if u then ((vx d a g h i j m).bind fun c => ((uE d c.1 c.2.1 c.2.2 i j m).bind fun o => (oL n q o.1 c.1 c.2.1 c.2.2 o.2.1 o.2.2))) else (oL n q d a g h i j))))
def wi (h : List (kA × (List (ByteArray × Bool)))) (a : List kB) (g : List (kA × (List kB))) (c : List (ByteArray × (List kB))) (d : List kF) (i : Int) (j : List kB) : Option (Int × (List (kA × (List (ByteArray × Bool)))) × (List kB) × (List (kA × (List kB))) × (List (ByteArray × (List kB))) × (List kF) × Int) :=
 oL i j h a g c d i
def vp (a0 : List kB) : Option ((List (kA × (List (ByteArray × Bool)))) × (List kB) × (List (kA × (List kB))) × (List (ByteArray × (List kB))) × (List kF) × Int) :=
 ((wi ([]) ([]) ([]) ([]) ([]) 0 a0).bind fun a => some (a.2.1, a.2.2.1, a.2.2.2.1, a.2.2.2.2.1, a.2.2.2.2.2.1, a.2.2.2.2.2.2))
def rz (a0 g : kF) : Option Int :=
 ((nB a0.kA g.kA).bind fun a => ((pQ a0.ly g.ly).bind fun c => ((sv ([a, c])).bind fun d => some d)))
def yw (c : List (kA × (List (ByteArray × Bool)))) (d : List kB) (i : List (kA × (List kB))) (g : List (ByteArray × (List kB))) (h : List kF) (k : Int) : Option (List kF) :=
 ((SH 48 (fun (a : kA) (b : ByteArray) => (⟨a, b⟩ : kF)) c).bind fun m => HN m (fun j => ((yF (fun (x : (kF × kF)) => rz x.1 x.2) j).bind fun n => some n)))
def rN (a : List (kA × (List (ByteArray × Bool)))) (c : List kB) (h : List (kA × (List kB))) (d : List (ByteArray × (List kB))) (g : List kF) (i : Int) (j : kA) (a2 : ByteArray) : Option Bool :=
 some (zD mh ((mo kQ a j).getD []) a2 false)
def oM  : List kB → Int → Option Int
 | [], c => some c
 | a :: d, c => (oM d (wi0 .i64 (c + (wi0 .i64 ((wi0 .i64 ((wi0 .i64 ((wi0 .i64 ((wi0 .i64 ((wi0 .i64 ((wi0 .i64 ((wi0 .i64 (20 + (a.Head.kI.size : Int))) + (a.Head.kU.size : Int))) + (a.ly.size : Int))) + (a.B.kI.size : Int))) + (a.B.kU.size : Int))) + (a.C.kI.size : Int))) + (a.C.kU.size : Int))) + (a.lU.size : Int))))))
def oz (a0 : List kB) : Option Int :=
 oM a0 0
def vR  : List Signed → Int → Option Int
 | [], a => some a
 | c :: d, a => ((oz ([c.kB])).bind fun g => (vR d (wi0 .i64 (a + (wi0 .i64 (g + (c.Tag.length : Int)))))))
def xT (h : List Signed) : List Key → Int → Option Int
 | [], a => ((vR h a).bind fun c => some c)
 | d :: g, a => (xT h g (wi0 .i64 (a + (wi0 .i64 ((wi0 .i64 (10 + (d.ly.size : Int))) + (d.Key.length : Int))))))
def AA (a0 : List Key) (a : List Signed) : Option Int :=
 xT a a0 0
def rJ (a0 : ByteArray) : Nat → Int → Option Bool
 | 0, _ => none
 | d + 1, c => (if (decide (c < (a0.size : Int))) then ((CB a0 c).bind fun a => ((if (decide ((a.toNat : Int) < 97)) then some true else some (decide ((a.toNat : Int) > 122))).bind fun g => ((if g then ((if (decide ((a.toNat : Int) < 48)) then some true else some (decide ((a.toNat : Int) > 57))).bind fun j => some j) else some false).bind fun h => ((if h then some ((a.toNat : Int) != 45) else some false).bind fun i => (if i then some false else (rJ a0 d (wi0 .i64 (c + 1)))))))) else some true)
def tb (a0 : ByteArray) : Option Bool :=
 ((if (mh a0 zS) then some true else some (decide ((a0.size : Int) > 16))).bind fun x2 => ((if x2 then some true else ((CB a0 0).bind fun c => some (decide ((c.toNat : Int) < 97)))).bind fun d => ((if d then some true else ((CB a0 0).bind fun a => some (decide ((a.toNat : Int) > 122)))).bind fun g => (if g then some false else rJ a0 lE 0))))
def tf (a0 : kA) : Option Bool :=
 ((tb a0.kI).bind fun d => ((if d then ((tb a0.kU).bind fun a => some a) else some false).bind fun c => some c))
def rq (a0 a : kA) : Option Bool :=
 ((if (qz a0.kI a.kI) then some true else ((if (mh a0.kI a.kI) then some (qz a0.kU a.kU) else some false).bind fun d => some d)).bind fun c => some c)
def wF (a0 : kB) : Option Bool :=
 ((tf a0.Head).bind fun v => (if (!v) then some false else (if (a0.Kind == 1) then ((tb a0.ly).bind fun i => ((if i then some (kQ a0.B (⟨zS, zS⟩ : kA)) else some false).bind fun k => ((if k then some (kQ a0.C (⟨zS, zS⟩ : kA)) else some false).bind fun m => ((if m then some (mh a0.lU zS) else some false).bind fun n => some n)))) else ((if (!(mh a0.ly zS)) then some true else ((tf a0.B).bind fun d => some (!d))).bind fun o => (if o then some false else (if (a0.Kind == 2) then ((if (kQ a0.C (⟨zS, zS⟩ : kA)) then some (mh a0.lU zS) else some false).bind fun q => some q) else (if (a0.Kind == 3) then ((if (kQ a0.C (⟨zS, zS⟩ : kA)) then some (mh a0.B.kI a0.Head.kI) else some false).bind fun s => ((if s then ((tb a0.lU).bind fun j => some j) else some false).bind fun t => some t)) else ((if (a0.Kind == 4) then some (mh a0.lU zS) else some false).bind fun u => ((if u then ((tf a0.C).bind fun c => some c) else some false).bind fun g => ((if g then ((rq a0.B a0.C).bind fun a => some a) else some false).bind fun h => some h))))))))))
def vl  : Nat → Int → ByteArray → Option ByteArray
 | 0, _, _ => none
 | n45 + 1, a, c => (if (decide (a ≥ 128)) then ((BG c (Cl ([(IntKind.u8.wrap (wi0 .i64 (128 + (Int.tmod a 128))))]))).bind fun d => (vl n45 (wi0 .i64 (Int.tdiv a 128)) d)) else ((BG c (Cl ([(IntKind.u8.wrap a)]))).bind fun g => some g))
def xE (a0 : Int) : Option ByteArray :=
 vl lE a0 zS
def vY (a0 : ByteArray) : Option ByteArray :=
 ((xE (a0.size : Int)).bind fun a => ((BG a a0).bind fun c => some c))
def wG (a0 : kA) : Option ByteArray :=
 ((vY a0.kI).bind fun a => ((vY a0.kU).bind fun c => ((BG a c).bind fun d => some d)))
def Cs (a0 : kB) : Option ByteArray :=
 ((xE a0.Kind).bind fun g => ((wG a0.Head).bind fun h => ((BG g h).bind fun a => (if (a0.Kind == 1) then ((vY a0.ly).bind fun i => ((BG a i).bind fun n => some n)) else ((wG a0.B).bind fun j => ((BG a j).bind fun c => (((if (a0.Kind == 3) then ((vY a0.lU).bind fun m => ((BG c m).bind fun q => some q)) else some c) : Option ByteArray).bind fun d => (((if (a0.Kind == 4) then ((wG a0.C).bind fun k => ((BG d k).bind fun o => some o)) else some d) : Option ByteArray).bind fun s => some s))))))))
def xZ (a0 : kB) : Option ByteArray :=
 ((wF a0).bind fun a => (if (!a) then some zS else ((Cs a0).bind fun c => some c)))
def uK (a0 d : kB) : Option Int :=
 ((xZ a0).bind fun a => ((xZ d).bind fun c => (if (qz a c) then some (-1) else (if (!(qz a c || mh a c)) then some 1 else some 0))))
def tF (a : List kB) : List kB → Bool → kB → Option (Bool × kB)
 | [], d, g => some (d, g)
 | c :: h, d, g => ((wF c).bind fun i => ((if i then ((if ((a.length : Int) == 0) then some true else ((mC a (wi0 .i64 ((a.length : Int) - 1))).bind fun s => ((uK s c).bind fun k => some (decide (k < 0))))).bind fun q => some q) else some false).bind fun m => ((if m then ((if (!d) then some true else ((uK c g).bind fun j => some (decide (j < 0)))).bind fun o => some o) else some false).bind fun n => (if n then (tF a h true c) else (tF a h d g)))))
def vH (a0 : List kB) : Nat → (List kB) → Option (List kB)
 | 0, _ => none
 | d + 1, a => ((tF a a0 false (⟨0, (⟨zS, zS⟩ : kA), zS, (⟨zS, zS⟩ : kA), (⟨zS, zS⟩ : kA), zS⟩ : kB)).bind fun (g, h) => (if (!g) then some a else ((mM 136 a ([h])).bind fun c => (vH a0 d c))))
def E7 (a0 : List kB) : Option (List kB) :=
 vH a0 lE ([])
def BE (d : kB) : List kB → Option Bool
 | [] => some false
 | c :: a => (if (oP c d) then some true else (BE d a))
def EZ (a0 : List kB) (a : kB) : Option Bool :=
 BE a a0
def tL (a : List ByteArray) : List ByteArray → ByteArray → Option ByteArray
 | [], d => some d
 | c :: g, d => ((tb c).bind fun i => ((if i then ((if ((a.length : Int) == 0) then some true else ((mC a (wi0 .i64 ((a.length : Int) - 1))).bind fun h => some (!(qz c h || mh c h)))).bind fun n => some n) else some false).bind fun j => ((if j then ((if (mh d zS) then some true else some (qz c d)).bind fun m => some m) else some false).bind fun k => (if k then (tL a g c) else (tL a g d)))))
def vK (a0 : List ByteArray) : Nat → (List ByteArray) → Option (List ByteArray)
 | 0, _ => none
 | g + 1, a => ((tL a a0 zS).bind fun c => (if (mh c zS) then some a else ((mM 16 a ([c])).bind fun d => (vK a0 g d))))
def BU (a0 : List ByteArray) : Option (List ByteArray) :=
 vK a0 lE ([])
def tR  : List kB → (List ByteArray) → Option (List ByteArray)
 | [], c => ((BU c).bind fun g => some g)
 | a :: h, c => ((mM 16 c ([a.ly, a.Head.kI, a.B.kI, a.C.kI])).bind fun d => (tR h d))
def Am (a0 : List kB) : Option (List ByteArray) :=
 tR a0 ([])
def xX (g : kA) (a2 : ByteArray) : List kF → Option Bool
 | [] => some false
 | c :: d => ((if (kQ c.kA g) then some (mh c.ly a2) else some false).bind fun a => (if a then some true else (xX g a2 d)))
def tY (a0 : List kF) (a : kA) (a2 : ByteArray) : Option Bool :=
 xX a a2 a0
def wN (a0 : List kF) (i : kB) (a3 : ByteArray) : List ByteArray → Option Bool
 | [] => some false
 | a :: c => ((tY a0 i.B a).bind fun d => ((if d then ((tY a0 (⟨a, i.lU⟩ : kA) a3).bind fun g => some g) else some false).bind fun h => (if h then some true else (wN a0 i a3 c))))
def yV (a0 : List kF) (a : kB) (a2 : List ByteArray) (a3 : ByteArray) : Option Bool :=
 (if (a.Kind == 1) then some (mh a.ly a3) else (if (a.Kind == 2) then ((tY a0 a.B a3).bind fun g => some g) else (if (a.Kind == 4) then ((tY a0 a.B a3).bind fun h => ((if h then ((tY a0 a.C a3).bind fun c => some c) else some false).bind fun d => some d)) else wN a0 a a3 a2)))
def vL (a0 a : kF) : Option Bool :=
 ((rq a0.kA a.kA).bind fun g => ((if g then some true else ((if (kQ a0.kA a.kA) then some (qz a0.ly a.ly) else some false).bind fun d => some d)).bind fun c => some c))
def pR (c a0 : List kF) : List kF → Nat → Int → Option Int
 | [], _, a => some a
 | h :: g, d, a => ((if ((c.length : Int) == 0) then some true else ((mC c (wi0 .i64 ((c.length : Int) - 1))).bind fun q => ((vL q h).bind fun j => some j))).bind fun k => ((if k then ((if (decide (a < 0)) then some true else ((mC a0 a).bind fun o => ((vL h o).bind fun i => some i))).bind fun n => some n) else some false).bind fun m => (if m then (pR c a0 g (d + 1) (d : Int)) else (pR c a0 g (d + 1) a))))
def pP (a0 : List kF) : List kF → (List kF) → Option (List kF)
 | [], a => some a
 | i :: d, a => ((pR a a0 a0 0 (-1)).bind fun c => (if (decide (c ≥ 0)) then ((mC a0 c).bind fun h => ((mM 48 a ([h])).bind fun g => (pP a0 d g))) else (pP a0 d a)))
def BL (a0 : List kF) : Option (List kF) :=
 pP a0 a0 ([])
def wI (c : kB) (n : List ByteArray) : List ByteArray → (List kF) → Bool → Option ((List kF) × Bool)
 | [], a, g => some (a, g)
 | d :: h, a, g => ((tY a c.Head d).bind fun j => ((if (!j) then ((yV a c n d).bind fun k => some k) else some false).bind fun m => (if m then ((mM 48 a ([(⟨c.Head, d⟩ : kF)])).bind fun i => (wI c n h i true)) else (wI c n h a g))))
def ym (j : List ByteArray) : List kB → (List kF) → Bool → Option ((List kF) × Bool)
 | [], a, c => some (a, c)
 | h :: d, a, c => ((wI h j j a c).bind fun (g, i) => (ym j d g i))
def wB (i : List ByteArray) (j : List kB) : Nat → (List kF) → Option (List kF)
 | 0, _ => none
 | c + 1, h => ((ym i j h false).bind fun (a, g) => (if (!g) then ((BL a).bind fun d => some d) else (wB i j c a)))
def zn (a0 : List kB) : Option (List kF) :=
 ((E7 a0).bind fun c => ((Am c).bind fun a => wB a c lE ([])))
def oC (c : Int) : Nat → (List ByteArray) → Int → Int → Option ((List ByteArray) × Int)
 | 0, _, _, _ => none
 | i + 1, a, d, g => (if (decide (g < ((a.length - (Int.toNat c) : Nat) : Int))) then ((((mC (a.drop (Int.toNat c)) g).bind fun k => ((mC (a.drop (Int.toNat c)) (wi0 .i64 (g - 1))).bind fun m => (if (!(mh k m)) then ((mC (a.drop (Int.toNat c)) g).bind fun n => ((mC a d).bind fun o => some ((a.set (Int.toNat d) n), (wi0 .i64 (d + 1))))) else some (a, d)))) : Option ((List ByteArray) × Int)).bind fun (h, j) => (oC c i h j (wi0 .i64 (g + 1)))) else some (a, d))
def oB (a0 : List ByteArray) : Nat → Int → Option (List ByteArray)
 | 0, _ => none
 | g + 1, a => (if (decide (a < (a0.length : Int))) then ((mC a0 a).bind fun h => ((mC a0 (wi0 .i64 (a - 1))).bind fun i => (if (mh h i) then ((nM (decide (0 ≤ a) && decide (a ≤ (a0.length : Int)))).bind fun _ => ((oC a lE a0 a 1).bind fun (d, c) => ((nM (decide (0 ≤ c) && decide (c ≤ (d.length : Int)))).bind fun _ => ((nM (decide (0 ≤ c) && decide (c ≤ ((oI d (Int.toNat c) zS).length : Int)))).bind fun _ => some ((oI d (Int.toNat c) zS).take (Int.toNat c)))))) else (oB a0 g (wi0 .i64 (a + 1)))))) else some a0)
def qK (a0 : List ByteArray) : Option (List ByteArray) :=
 (if (decide ((a0.length : Int) < 2)) then some a0 else oB a0 lE 1)
def uV  : List ByteArray → (List ByteArray) → Option (List ByteArray)
 | [], a => ((Ib a).bind fun h => ((qK h).bind fun i => some i))
 | j :: c, a => ((qm j).bind fun g => (if g then ((mM 16 a ([j])).bind fun d => (uV c d)) else (uV c a)))
def zB (a0 : List ByteArray) : Option (List ByteArray) :=
 uV a0 ([])
def tK  : List kB → (List ByteArray) → Option (List ByteArray)
 | [], c => ((zB c).bind fun g => some g)
 | a :: h, c => ((mM 16 c ([a.ly, a.Head.kI, a.B.kI, a.C.kI])).bind fun d => (tK h d))
def Ax (a0 : List kB) : Option (List ByteArray) :=
 tK a0 ([])
def oW (f1 : ByteArray → Option Bool) : List ByteArray → Nat → Option Int
 | [], _ => some (-1)
 | d :: a, i35 => ((f1 d).bind fun c => (if c then some (i35 : Int) else (oW f1 a (i35 + 1))))
def vu (a0 : List ByteArray) (f1 : ByteArray → Option Bool) : Option Int :=
 oW f1 a0 0
def tB (a0 : List ByteArray) (f1 : ByteArray → Option Bool) : Option Bool :=
 ((vu a0 f1).bind fun a => some (decide (a ≥ 0)))
def vh (a0 : ByteArray) (a : (kA × ByteArray) → Option Bool) (c1 : kB) (c2 : ByteArray) : Option Bool :=
 ((a (c1.B, a0)).bind fun g => ((if g then ((a ((⟨a0, c1.lU⟩ : kA), c2)).bind fun c => some c) else some false).bind fun d => some d))
def zr (a0 : kB) (f1 : (kA × ByteArray) → Option Bool) (a2 : List ByteArray) (a3 : ByteArray) : Option Bool :=
 (if (a0.Kind == 1) then some (mh a0.ly a3) else (if (a0.Kind == 2) then ((f1 (a0.B, a3)).bind fun a => some a) else (if (a0.Kind == 4) then ((f1 (a0.B, a3)).bind fun c => ((if c then ((f1 (a0.C, a3)).bind fun d => some d) else some false).bind fun h => some h)) else ((tB a2 (fun (x : ByteArray) => vh x f1 a0 a3)).bind fun g => some g))))
def rT (a0 : kB) (f1 : (kA × ByteArray) → Option Bool) (g : List ByteArray) : List ByteArray → (List kF) → Option (List kF)
 | [], a => some a
 | d :: c, a => ((zr a0 f1 g d).bind fun i => (if i then ((mM 48 a ([(⟨a0.Head, d⟩ : kF)])).bind fun h => (rT a0 f1 g c h)) else (rT a0 f1 g c a)))
def wy (a0 : kB) (f1 : (kA × ByteArray) → Option Bool) (a2 : List ByteArray) : Option (List kF) :=
 ((pI a0).bind fun d => ((if (!d) then some true else some false).bind fun x7 => (if x7 then some [] else ((zB a2).bind fun a => (((if (a0.Kind == 1) then some ([a0.ly]) else some a) : Option (List ByteArray)).bind fun c => rT a0 f1 a c ([]))))))
def vO (a0 : kA) (a : ByteArray) (c : List (kF × Bool)) : Option Bool :=
 some (zD nq c (⟨a0, a⟩ : kF) false)
def qn (g : kB) (j : kF) : List kF → (List kY) → (List (kF × Bool)) → Option ((((List kY) × Bool) ⊕ ((List kY) × (List (kF × Bool)))) ⊕ ((List kY) × (List (kF × Bool))))
 | [], c, a => some (Sum.inr (c, a))
 | d :: h, c, a => (if (zD nq a d false) then (qn g j h c a) else ((mM 184 c ([(⟨g, d⟩ : kY)])).bind fun i => (if (nq d j) then some (Sum.inl (Sum.inl (i, true))) else (qn g j h i (ow nq a d true)))))
def rK (m : List ByteArray) (n : kF) : List kB → (List kY) → (List (kF × Bool)) → Option (((List kY) × Bool) ⊕ ((List kY) × (List (kF × Bool))))
 | [], c, a => some (Sum.inr (c, a))
 | d :: g, c, a => ((wy d (fun (x : (kA × ByteArray)) => vO x.1 x.2 a) m).bind fun k => ((qn d n k c a).bind fun s => match s with | .inl j => some j | .inr (h, i) => (rK m n g h i)))
def rM (k : List ByteArray) (m : kF) (n : List kB) : Nat → (List kY) → Int → (List (kF × Bool)) → Option ((List kY) × Bool)
 | 0, _, _, _ => none
 | h + 1, a, j, c => (if (decide (j < (a.length : Int))) then ((rK k m n a c).bind fun s => match s with | .inl i => some i | .inr (d, g) => (rM k m n h d (a.length : Int) g)) else some ([], false))
def yi (a0 : List kB) (c : kF) : Option ((List kY) × Bool) :=
 ((Bi a0).bind fun d => ((Ax a0).bind fun a => rM a c d lE ([]) (-1) ([])))
def tI  : List kY → (List kF) → Option (List kF)
 | [], a => some a
 | g :: d, a => ((mM 48 a ([g.kF])).bind fun c => (tI d c))
def wE (a0 : List kY) : Option (List kF) :=
 tI a0 ([])
def rC (d : kF) : List kF → Nat → Option Int
 | [], _ => some (-1)
 | c :: a, i46 => (if (nq d c) then some (i46 : Int) else (rC d a (i46 + 1)))
def yv (a0 : List kF) (a : kF) : Option Int :=
 rC a a0 0
def re (a0 : List kF) (a : kF) : Option Bool :=
 ((yv a0 a).bind fun c => some (decide (c ≥ 0)))
def pE (d : kF) : List kF → Nat → Option Int
 | [], _ => some (-1)
 | c :: a, i46 => (if (nq d c) then some (i46 : Int) else (pE d a (i46 + 1)))
def wu (a0 : List kF) (a : kF) : Option Int :=
 pE a a0 0
def rF (a0 : List kF) (a : kF) : Option Bool :=
 ((wu a0 a).bind fun c => some (decide (c ≥ 0)))
def tE (a0 : List kF) (a : kA) (a2 : ByteArray) : Option Bool :=
 ((rF a0 (⟨a, a2⟩ : kF)).bind fun c => some c)
def oE (f1 : kF → Option Bool) : List kF → Nat → Option Int
 | [], _ => some (-1)
 | d :: a, i35 => ((f1 d).bind fun c => (if c then some (i35 : Int) else (oE f1 a (i35 + 1))))
def ui (a0 : List kF) (f1 : kF → Option Bool) : Option Int :=
 oE f1 a0 0
def pT (a0 : List kF) (f1 : kF → Option Bool) : Option Bool :=
 ((ui a0 f1).bind fun a => some (decide (a ≥ 0)))
def uO (a0 : kF) (c : kA) (c1 : List kF) (c2 d : ByteArray) : Option Bool :=
 ((if (kQ a0.kA c) then ((tE c1 (⟨a0.ly, c2⟩ : kA) d).bind fun a => some a) else some false).bind fun x7 => some x7)
def yY (a0 : List kF) (c : kA) (a2 a3 : ByteArray) : Option Bool :=
 ((pT a0 (fun (x : kF) => uO x c a0 a2 a3)).bind fun a => some a)
def uP (a0 : kY) (a : List kF) : Option Bool :=
 ((pI a0.kB).bind fun c => ((if (!c) then some true else some (!(kQ a0.kF.kA a0.kB.Head))).bind fun j => (if j then some false else (if (a0.kB.Kind == 1) then some (mh a0.kB.ly a0.kF.ly) else (if (a0.kB.Kind == 2) then ((tE a a0.kB.B a0.kF.ly).bind fun d => some d) else (if (a0.kB.Kind == 3) then ((yY a a0.kB.B a0.kB.lU a0.kF.ly).bind fun g => some g) else ((tE a a0.kB.B a0.kF.ly).bind fun h => ((if h then ((tE a a0.kB.C a0.kF.ly).bind fun i => some i) else some false).bind fun k => some k))))))))
def sZ (d : List kF) : List kY → Nat → Option Bool
 | [], _ => some true
 | g :: a, i98 => ((nM (decide (0 ≤ (i98 : Int)) && decide ((i98 : Int) ≤ (d.length : Int)))).bind fun _ => ((uP g (d.take (Int.toNat (i98 : Int)))).bind fun c => (if (!c) then some false else (sZ d a (i98 + 1)))))
def xy (a0 : List kY) : Option Bool :=
 ((wE a0).bind fun a => sZ a a0 0)
def qX (a0 : List kY) : Option (List kY) :=
 ((mM 184 ([]) a0).bind fun a => some a)
def sx (a0 : List kY) (a a2 : Int) : Option (List kY) :=
 ((nM (decide (0 ≤ a ∧ a ≤ a2 ∧ a2 ≤ (a0.length : Int) ∧ (a0.length : Int) ≤ (a0.length : Int)))).bind fun _ => (if (a == a2) then some a0 else ((nM (decide (0 ≤ a) && decide (a ≤ (a0.length : Int)))).bind fun _ => ((nM (decide (0 ≤ a2) && decide (a2 ≤ (a0.length : Int)))).bind fun _ => ((nM (decide ((Int.toNat a) ≤ (Int.toNat a2) ∧ (Int.toNat a2) ≤ a0.length))).bind fun c => ((nM (decide (0 ≤ ((a0.take (Int.toNat a) ++ a0.drop (Int.toNat a2)).length : Int) ∧ ((a0.take (Int.toNat a) ++ a0.drop (Int.toNat a2)).length : Int) ≤ (a0.length : Int) ∧ (a0.length : Int) = ((Cx a0 (Int.toNat a) (Int.toNat a2)).length : Int) ∧ ((a0.take (Int.toNat a) ++ a0.drop (Int.toNat a2)).length : Int) = ((a0.take (Int.toNat a) ++ a0.drop (Int.toNat a2)).length : Int)))).bind fun _ => some ((oI (Cx a0 (Int.toNat a) (Int.toNat a2)) (Int.toNat ((a0.take (Int.toNat a) ++ a0.drop (Int.toNat a2)).length : Int)) (⟨(⟨0, (⟨zS, zS⟩ : kA), zS, (⟨zS, zS⟩ : kA), (⟨zS, zS⟩ : kA), zS⟩ : kB), (⟨(⟨zS, zS⟩ : kA), zS⟩ : kF)⟩ : kY)).take (a0.take (Int.toNat a) ++ a0.drop (Int.toNat a2)).length)))))))
def tG (a0 : List kY) : Nat → Int → Option (Bool ⊕ Unit)
 | 0, _ => none
 | c + 1, a => (if (decide (a < (if 0 > (wi0 .i64 ((a0.length : Int) - 1)) then 0 else (wi0 .i64 ((a0.length : Int) - 1))))) then ((qX a0).bind fun d => ((sx d a (wi0 .i64 (a + 1))).bind fun g => ((xy g).bind fun h => (if h then some (Sum.inl false) else (tG a0 c (wi0 .i64 (a + 1))))))) else some (Sum.inr ()))
def tO (i : List kF) (a0 : List kY) : List kF → Nat → Option Bool
 | [], _ => ((xy a0).bind fun g => (if (!g) then some false else ((tG a0 lE 0).bind fun s => match s with | .inl c => some c | .inr _ => some true)))
 | h :: a, i100 => ((nM (decide (0 ≤ (i100 : Int)) && decide ((i100 : Int) ≤ (i.length : Int)))).bind fun _ => ((re (i.take (Int.toNat (i100 : Int))) h).bind fun d => (if d then some false else (tO i a0 a (i100 + 1)))))
def An (a0 : List kY) : Option Bool :=
 ((wE a0).bind fun a => tO a a0 a 0)
def sU  : List kY → (List kF) → Option Bool
 | [], a => some true
 | g :: h, a => ((uP g a).bind fun d => (if (!d) then some false else ((mM 48 a ([g.kF])).bind fun c => (sU h c))))
def zx (a0 : List kY) : Option Bool :=
 sU a0 ([])
def px  : Nat → (List kY) → Int → Option (List kY)
 | 0, _, _ => none
 | h + 1, c, a => (if (decide (a ≥ 0)) then ((((qX c).bind fun i => ((sx i a (wi0 .i64 (a + 1))).bind fun d => ((zx d).bind fun j => (if j then some d else some c)))) : Option (List kY)).bind fun g => (px h g (wi0 .i64 (a - 1)))) else some c)
def qC  : Nat → (List kY) → Option (List kY)
 | 0, _ => none
 | d + 1, a => ((An a).bind fun g => (if (!g) then ((px lE a (wi0 .i64 ((a.length : Int) - 2))).bind fun c => (qC d c)) else some a))
def xu (a0 : List kY) : Option (List kY) :=
 qC lE a0
def vM (a0 : List kB) (d : kF) : Option ((List kY) × Bool) :=
 ((yi a0 d).bind fun c => (if (!c.2) then some ([], false) else ((xu c.1).bind fun a => some (a, true))))
def NT (a0 : List kB) (c : ByteArray) : Option ((List (kA × (List (ByteArray × Bool)))) × (List kB) × (List (kA × (List kB))) × (List (ByteArray × (List kB))) × (List kF) × Int × ByteArray) :=
 ((vp a0).bind fun a => some (a.1, a.2.1, a.2.2.1, a.2.2.2.1, a.2.2.2.2.1, a.2.2.2.2.2, c))
def xm (f1 : nR → Option Bool) : List nR → Nat → Option Int
 | [], _ => some (-1)
 | d :: a, i47 => ((f1 d).bind fun c => (if c then some (i47 : Int) else (xm f1 a (i47 + 1))))
def Cz (a0 : List nR) (f1 : nR → Option Bool) : Option Int :=
 xm f1 a0 0
def JZ (a0 : nR) (a : kB) : Option Bool :=
 some (oP a0.Signed.kB a)
def No (a0 : mg) (d : kB) : Option (nR × Bool) :=
 ((Cz a0.mY (fun (x : nR) => JZ x d)).bind fun a => (if (decide (a < 0)) then some ((⟨(⟨(⟨0, (⟨zS, zS⟩ : kA), zS, (⟨zS, zS⟩ : kA), (⟨zS, zS⟩ : kA), zS⟩ : kB), []⟩ : Signed), (⟨0, 0, (⟨zS, zS⟩ : kA), []⟩ : Formula)⟩ : nR), false) else ((mC a0.mY a).bind fun c => some (c, true))))
def HA (a0 : List uJ) : Option (List uJ) :=
 ((mM 128 ([]) a0).bind fun a => some a)
def yD (f1 : uJ → Option Bool) : List uJ → Nat → Option Int
 | [], _ => some (-1)
 | d :: a, i47 => ((f1 d).bind fun c => (if c then some (i47 : Int) else (yD f1 a (i47 + 1))))
def E5 (a0 : List uJ) (f1 : uJ → Option Bool) : Option Int :=
 yD f1 a0 0
def yh (f1 : uJ → Option Bool) : Nat → (List uJ) → Int → Int → Option (List uJ)
 | 0, _, _, _ => none
 | i + 1, c, a, d => (if (decide (d < (c.length : Int))) then ((((mC c d).bind fun g => ((f1 g).bind fun j => (if (!j) then ((mC c a).bind fun m => some ((c.set (Int.toNat a) g), (wi0 .i64 (a + 1)))) else some (c, a)))) : Option ((List uJ) × Int)).bind fun (h, k) => (yh f1 i h k (wi0 .i64 (d + 1)))) else ((nM (decide (0 ≤ a) && decide (a ≤ (c.length : Int)))).bind fun _ => ((nM (decide (0 ≤ a) && decide (a ≤ ((oI c (Int.toNat a) (⟨(⟨zS, zS⟩ : kA), (⟨0, 0, (⟨zS, zS⟩ : kA), []⟩ : Formula), []⟩ : uJ)).length : Int)))).bind fun _ => some ((oI c (Int.toNat a) (⟨(⟨zS, zS⟩ : kA), (⟨0, 0, (⟨zS, zS⟩ : kA), []⟩ : Formula), []⟩ : uJ)).take (Int.toNat a)))))
def D5 (a0 : List uJ) (f1 : uJ → Option Bool) : Option (List uJ) :=
 ((E5 a0 f1).bind fun a => (if (a == (-1)) then some a0 else yh f1 lE a0 a (wi0 .i64 (a + 1))))
def Jk (a0 : uJ) (a : kB) : Option Bool :=
 ((zI a0.qE a).bind fun c => some (!c))
def Mr (a0 : mg) (c : kB) : Option (List uJ) :=
 ((HA a0.oX).bind fun d => ((D5 d (fun (x : uJ) => Jk x c)).bind fun a => some a))
def qt (h : Int) (rec : Formula → Int → Option (Int × Int)) : List Formula → Int → Int → Option (Int × Int)
 | [], a, d => some (a, d)
 | i :: g, a, d => (if (decide (a > h)) then some (a, d) else ((rec i (wi0 .i64 (h - a))).bind fun c => (qt h rec g (wi0 .i64 (a + c.1)) (if c.2 > d then c.2 else d))))
def xO (rec : Formula → Int → Option (Int × Int)) (a0 : Formula) (d : Int) : Option (Int × Int) :=
 ((qt d rec a0.Kids 1 0).bind fun (a, c) => some (a, (wi0 .i64 (c + 1))))
def pj : Nat → Formula → Int → Option (Int × Int)
 | 0 => fun _ _ => none
 | n + 1 => xO (pj n)
def zy (a0 : Formula) : Option (Int × Int) :=
 ((pj lE a0 4096).bind fun a => (if (decide (a.1 > 4096)) then some (0, 0) else some (a.1, a.2)))
def zt (a0 : Formula) : Option Bool :=
 (if (a0.Op == 1) then ((pF a0.kA).bind fun g => ((if g then some ((a0.Kids.length : Int) == 0) else some false).bind fun h => ((if h then some (a0.K == 0) else some false).bind fun i => some i))) else ((if (a0.Op == 2) then some (a0.Op == 2) else some (a0.Op == 3)).bind fun j => (if j then ((if (kQ a0.kA (⟨zS, zS⟩ : kA)) then some (a0.K == 0) else some false).bind fun k => some k) else ((if (a0.Op == 4) then some (kQ a0.kA (⟨zS, zS⟩ : kA)) else some false).bind fun m => ((if m then some (decide (a0.K ≥ 0)) else some false).bind fun a => ((if a then some (decide (a0.K ≤ (a0.Kids.length : Int))) else some false).bind fun c => ((if c then some (decide ((a0.Kids.length : Int) ≥ 1)) else some false).bind fun d => some d)))))))
def nS (f1 : Formula → Option Bool) : List Formula → Nat → Option Int
 | [], _ => some (-1)
 | d :: a, i41 => ((f1 d).bind fun c => (if c then some (i41 : Int) else (nS f1 a (i41 + 1))))
def uW (a0 : List Formula) (f1 : Formula → Option Bool) : Option Int :=
 nS f1 a0 0
def oQ (a0 : List Formula) (f1 : Formula → Option Bool) : Option Bool :=
 ((uW a0 f1).bind fun a => some (decide (a ≥ 0)))
def wM (rec : Formula → Option Bool) (a0 : Formula) : Option Bool :=
 ((rec a0).bind fun a => some (!a))
def xR (rec : Formula → Option Bool) (a0 : Formula) : Option Bool :=
 ((zt a0).bind fun d => ((if d then some (decide ((a0.Kids.length : Int) ≤ 8)) else some false).bind fun g => ((if g then ((oQ a0.Kids (fun (x : Formula) => wM rec x)).bind fun a => some (!a)) else some false).bind fun c => some c)))
def sN : Nat → Formula → Option Bool
 | 0 => fun _ => none
 | n + 1 => xR (sN n)
def qV (a0 : Formula) : Option Bool :=
 ((zy a0).bind fun c => ((if (decide (c.1 ≥ 1)) then some (decide (c.1 ≤ 64)) else some false).bind fun h => ((if h then some (decide (c.2 ≤ 6)) else some false).bind fun d => ((if d then ((sN lE a0).bind fun a => some a) else some false).bind fun g => some g))))
def BI (a0 : Formula) (a : Int) : Option Bool :=
 ((if (a0.Op == a) then some ((a0.Kids.length : Int) == 0) else some false).bind fun x6 => some x6)
def JU  : Option Formula :=
 some (⟨2, 0, (⟨zS, zS⟩ : kA), []⟩ : Formula)
def KE  : Option Formula :=
 some (⟨3, 0, (⟨zS, zS⟩ : kA), []⟩ : Formula)
def AO (a0 : Int) : List Formula → (List Formula) → Option (List Formula)
 | [], a => some a
 | c :: d, a => (if (c.Op == a0) then ((mM 72 a c.Kids).bind fun g => (AO a0 d g)) else ((mM 72 a ([c])).bind fun h => (AO a0 d h)))
def MA (a0 : Int) (a : List Formula) : Option (List Formula) :=
 AO a0 a ([])
def CH (a0 : Formula) (a : Int) : Option Bool :=
 ((BI a0 a).bind fun c => some c)
def EX (a0 : List Formula) : Option (List Formula) :=
 ((mM 72 ([]) a0).bind fun a => some a)
def sK (q : Int) (f3 : (Formula × Formula) → Option Int) : Nat → (List Formula) → Int → Option (List Formula)
 | 0, _, _ => none
 | h + 1, c, a => ((if (decide (a > q)) then ((mC c a).bind fun k => ((mC c (wi0 .i64 (a - 1))).bind fun m => ((f3 (k, m)).bind fun i => some (decide (i < 0))))) else some false).bind fun j => (if j then ((mC c (wi0 .i64 (a - 1))).bind fun g => ((mC c a).bind fun d => ((mC c a).bind fun n => ((mC (c.set (Int.toNat a) g) (wi0 .i64 (a - 1))).bind fun o => (sK q f3 h ((c.set (Int.toNat a) g).set (Int.toNat (wi0 .i64 (a - 1))) (⟨d.Op, d.K, d.kA, d.Kids⟩ : Formula)) (wi0 .i64 (a - 1))))))) else some c))
def sw (a2 h : Int) (f3 : (Formula × Formula) → Option Int) : Nat → (List Formula) → Int → Option (List Formula)
 | 0, _, _ => none
 | g + 1, c, a => (if (decide (a < a2)) then ((sK h f3 lE c a).bind fun d => (sw a2 h f3 g d (wi0 .i64 (a + 1)))) else some c)
def tS (a0 : List Formula) (a a2 : Int) (f3 : (Formula × Formula) → Option Int) : Option (List Formula) :=
 sw a2 a f3 lE a0 (wi0 .i64 (a + 1))
def uu (a3 a2 h : Int) : Nat → (List Formula) → Int → Option (List Formula)
 | 0, _, _ => none
 | i + 1, c, a => (if (decide (a < a3)) then ((mC c (wi0 .i64 (a2 + a))).bind fun g => ((mC c (wi0 .i64 (h + a))).bind fun d => ((mC c (wi0 .i64 (h + a))).bind fun j => ((mC (c.set (Int.toNat (wi0 .i64 (h + a))) g) (wi0 .i64 (a2 + a))).bind fun k => (uu a3 a2 h i ((c.set (Int.toNat (wi0 .i64 (h + a))) g).set (Int.toNat (wi0 .i64 (a2 + a))) (⟨d.Op, d.K, d.kA, d.Kids⟩ : Formula)) (wi0 .i64 (a + 1))))))) else some c)
def rl (a0 : List Formula) (a a2 a3 : Int) (f4 : (Formula × Formula) → Option Int) : Option (List Formula) :=
 uu a3 a2 a lE a0 0
def rB (a2 : Int) (f4 : (Formula × Formula) → Option Int) : Nat → (List Formula) → Int → Int → Option (List Formula)
 | 0, _, _, _ => none
 | n185 + 1, d, a, c => (if (a != c) then (if (decide (a > c)) then ((rl d (wi0 .i64 (a2 - a)) a2 c f4).bind fun g => (rB a2 f4 n185 g (wi0 .i64 (a - c)) c)) else ((rl d (wi0 .i64 (a2 - a)) (wi0 .i64 ((wi0 .i64 (a2 + c)) - a)) a f4).bind fun h => (rB a2 f4 n185 h a (wi0 .i64 (c - a))))) else ((rl d (wi0 .i64 (a2 - a)) a2 a f4).bind fun i => some i))
def AZ (a0 : List Formula) (a a2 a3 : Int) (f4 : (Formula × Formula) → Option Int) : Option (List Formula) :=
 rB a2 f4 lE a0 (wi0 .i64 (a2 - a)) (wi0 .i64 (a3 - a2))
def uT (h : Int) : Nat → (List Formula) → Int → Option (List Formula)
 | 0, _, _ => none
 | i + 1, c, a => (if (decide (a < (wi0 .i64 (h - 1)))) then ((mC c (wi0 .i64 (a + 1))).bind fun g => ((mC c a).bind fun d => ((mC c a).bind fun j => ((mC (c.set (Int.toNat a) g) (wi0 .i64 (a + 1))).bind fun k => (uT h i ((c.set (Int.toNat a) g).set (Int.toNat (wi0 .i64 (a + 1))) (⟨d.Op, d.K, d.kA, d.Kids⟩ : Formula)) (wi0 .i64 (a + 1))))))) else some c)
def qD (a0 : List Formula) (j : Int) (f4 : (Formula × Formula) → Option Int) : Nat → Int → Int → Option (List Formula)
 | 0, _, _ => none
 | n325 + 1, a, c => (if (decide (a < c)) then ((mC a0 (wi0 .i64 (Int.fdiv (IntKind.u64.wrap (wi0 .i64 (a + c))) (2 ^ min (Int.toNat 1) (IntKind.bits .u64))))).bind fun h => ((mC a0 j).bind fun i => ((f4 (h, i)).bind fun g => (if (decide (g < 0)) then (qD a0 j f4 n325 (wi0 .i64 ((wi0 .i64 (Int.fdiv (IntKind.u64.wrap (wi0 .i64 (a + c))) (2 ^ min (Int.toNat 1) (IntKind.bits .u64)))) + 1)) c) else (qD a0 j f4 n325 a (wi0 .i64 (Int.fdiv (IntKind.u64.wrap (wi0 .i64 (a + c))) (2 ^ min (Int.toNat 1) (IntKind.bits .u64))))))))) else ((uT a lE a0 j).bind fun d => some d))
def uR (g : Int) : Nat → (List Formula) → Int → Option (List Formula)
 | 0, _, _ => none
 | i + 1, c, a => (if (decide (a > g)) then ((mC c (wi0 .i64 (a - 1))).bind fun h => ((mC c a).bind fun d => ((mC c a).bind fun j => ((mC (c.set (Int.toNat a) h) (wi0 .i64 (a - 1))).bind fun k => (uR g i ((c.set (Int.toNat a) h).set (Int.toNat (wi0 .i64 (a - 1))) (⟨d.Op, d.K, d.kA, d.Kids⟩ : Formula)) (wi0 .i64 (a - 1))))))) else some c)
def qI (a0 : List Formula) (a2 : Int) (f4 : (Formula × Formula) → Option Int) : Nat → Int → Int → Option (List Formula)
 | 0, _, _ => none
 | d + 1, a, c => (if (decide (a < c)) then ((mC a0 a2).bind fun i => ((mC a0 (wi0 .i64 (Int.fdiv (IntKind.u64.wrap (wi0 .i64 (a + c))) (2 ^ min (Int.toNat 1) (IntKind.bits .u64))))).bind fun j => ((f4 (i, j)).bind fun h => (if (!(decide (h < 0))) then (qI a0 a2 f4 d (wi0 .i64 ((wi0 .i64 (Int.fdiv (IntKind.u64.wrap (wi0 .i64 (a + c))) (2 ^ min (Int.toNat 1) (IntKind.bits .u64)))) + 1)) c) else (qI a0 a2 f4 d a (wi0 .i64 (Int.fdiv (IntKind.u64.wrap (wi0 .i64 (a + c))) (2 ^ min (Int.toNat 1) (IntKind.bits .u64))))))))) else ((uR a lE a0 a2).bind fun g => some g))
def qF (a0 : List Formula) (d a3 a2 : Int) (f4 : (Formula × Formula) → Option Int) (rec : (List Formula) → Int → Int → Int → ((Formula × Formula) → Option Int) → Option (List Formula)) : Nat → Int → Int → Option (List Formula)
 | 0, _, _ => none
 | i + 1, a, c => (if (decide (a < c)) then ((mC a0 (wi0 .i64 ((wi0 .i64 ((wi0 .i64 ((wi0 .i64 (Int.fdiv (IntKind.u64.wrap (wi0 .i64 (d + a3))) (2 ^ min (Int.toNat 1) (IntKind.bits .u64)))) + a2)) - 1)) - (wi0 .i64 (Int.fdiv (IntKind.u64.wrap (wi0 .i64 (a + c))) (2 ^ min (Int.toNat 1) (IntKind.bits .u64))))))).bind fun o => ((mC a0 (wi0 .i64 (Int.fdiv (IntKind.u64.wrap (wi0 .i64 (a + c))) (2 ^ min (Int.toNat 1) (IntKind.bits .u64))))).bind fun q => ((f4 (o, q)).bind fun j => (if (!(decide (j < 0))) then (qF a0 d a3 a2 f4 rec i (wi0 .i64 ((wi0 .i64 (Int.fdiv (IntKind.u64.wrap (wi0 .i64 (a + c))) (2 ^ min (Int.toNat 1) (IntKind.bits .u64)))) + 1)) c) else (qF a0 d a3 a2 f4 rec i a (wi0 .i64 (Int.fdiv (IntKind.u64.wrap (wi0 .i64 (a + c))) (2 ^ min (Int.toNat 1) (IntKind.bits .u64))))))))) else ((((if (decide (a < a2)) then some (decide (a2 < (wi0 .i64 ((wi0 .i64 ((wi0 .i64 (Int.fdiv (IntKind.u64.wrap (wi0 .i64 (d + a3))) (2 ^ min (Int.toNat 1) (IntKind.bits .u64)))) + a2)) - a)))) else some false).bind fun u => (if u then ((AZ a0 a a2 (wi0 .i64 ((wi0 .i64 ((wi0 .i64 (Int.fdiv (IntKind.u64.wrap (wi0 .i64 (d + a3))) (2 ^ min (Int.toNat 1) (IntKind.bits .u64)))) + a2)) - a)) f4).bind fun n => some n) else some a0)) : Option (List Formula)).bind fun g => ((((if (decide (d < a)) then some (decide (a < (wi0 .i64 (Int.fdiv (IntKind.u64.wrap (wi0 .i64 (d + a3))) (2 ^ min (Int.toNat 1) (IntKind.bits .u64)))))) else some false).bind fun t => (if t then ((rec g d a (wi0 .i64 (Int.fdiv (IntKind.u64.wrap (wi0 .i64 (d + a3))) (2 ^ min (Int.toNat 1) (IntKind.bits .u64)))) f4).bind fun m => some m) else some g)) : Option (List Formula)).bind fun h => ((if (decide ((wi0 .i64 (Int.fdiv (IntKind.u64.wrap (wi0 .i64 (d + a3))) (2 ^ min (Int.toNat 1) (IntKind.bits .u64)))) < (wi0 .i64 ((wi0 .i64 ((wi0 .i64 (Int.fdiv (IntKind.u64.wrap (wi0 .i64 (d + a3))) (2 ^ min (Int.toNat 1) (IntKind.bits .u64)))) + a2)) - a)))) then some (decide ((wi0 .i64 ((wi0 .i64 ((wi0 .i64 (Int.fdiv (IntKind.u64.wrap (wi0 .i64 (d + a3))) (2 ^ min (Int.toNat 1) (IntKind.bits .u64)))) + a2)) - a)) < a3)) else some false).bind fun s => (if s then ((rec h (wi0 .i64 (Int.fdiv (IntKind.u64.wrap (wi0 .i64 (d + a3))) (2 ^ min (Int.toNat 1) (IntKind.bits .u64)))) (wi0 .i64 ((wi0 .i64 ((wi0 .i64 (Int.fdiv (IntKind.u64.wrap (wi0 .i64 (d + a3))) (2 ^ min (Int.toNat 1) (IntKind.bits .u64)))) + a2)) - a)) a3 f4).bind fun k => some k) else some h)))))
def yI (rec : (List Formula) → Int → Int → Int → ((Formula × Formula) → Option Int) → Option (List Formula)) (a0 : List Formula) (a a2 a3 : Int) (f4 : (Formula × Formula) → Option Int) : Option (List Formula) :=
 (if ((wi0 .i64 (a2 - a)) == 1) then qD a0 a f4 lE a2 a3 else (if ((wi0 .i64 (a3 - a2)) == 1) then qI a0 a2 f4 lE a a2 else (((if (decide (a2 > (wi0 .i64 (Int.fdiv (IntKind.u64.wrap (wi0 .i64 (a + a3))) (2 ^ min (Int.toNat 1) (IntKind.bits .u64)))))) then some ((wi0 .i64 ((wi0 .i64 ((wi0 .i64 (Int.fdiv (IntKind.u64.wrap (wi0 .i64 (a + a3))) (2 ^ min (Int.toNat 1) (IntKind.bits .u64)))) + a2)) - a3)), (wi0 .i64 (Int.fdiv (IntKind.u64.wrap (wi0 .i64 (a + a3))) (2 ^ min (Int.toNat 1) (IntKind.bits .u64))))) else some (a, a2)) : Option (Int × Int)).bind fun (c, d) => qF a0 a a3 a2 f4 rec lE c d)))
def rS : Nat → (List Formula) → Int → Int → Int → ((Formula × Formula) → Option Int) → Option (List Formula)
 | 0 => fun _ _ _ _ _ => none
 | n + 1 => yI (rS n)
def vC (j c : Int) (f2 : (Formula × Formula) → Option Int) : Nat → (List Formula) → Int → Int → Option ((List Formula) × Int)
 | 0, _, _, _ => none
 | h + 1, g, d, a => (if (decide (a ≤ j)) then ((rS lE g d (wi0 .i64 (d + c)) a f2).bind fun i => (vC j c f2 h i a (wi0 .i64 (a + (wi0 .i64 (2 * c)))))) else some (g, d))
def vB (k : Int) (f2 : (Formula × Formula) → Option Int) : Nat → (List Formula) → Int → Option (List Formula)
 | 0, _, _ => none
 | i + 1, d, a => (if (decide (a < k)) then ((vC k a f2 lE d 0 (wi0 .i64 (2 * a))).bind fun (g, c) => (((if (decide ((wi0 .i64 (c + a)) < k)) then ((rS lE g c (wi0 .i64 (c + a)) k f2).bind fun j => some j) else some g) : Option (List Formula)).bind fun h => (vB k f2 i h (wi0 .i64 (a * 2))))) else some d)
def vE (j : Int) (f2 : (Formula × Formula) → Option Int) : Nat → (List Formula) → Int → Int → Option (List Formula)
 | 0, _, _, _ => none
 | n123 + 1, d, i, a => (if (decide (a ≤ j)) then ((tS d i a f2).bind fun g => (vE j f2 n123 g a (wi0 .i64 (a + 20)))) else ((tS d i j f2).bind fun h => ((vB j f2 lE h 20).bind fun c => some c)))
def Bk (a0 : List Formula) (a : Int) (f2 : (Formula × Formula) → Option Int) : Option (List Formula) :=
 vE a f2 lE a0 0 20
def AV (a0 : List Formula) (f1 : (Formula × Formula) → Option Int) : Option (List Formula) :=
 ((Bk a0 (a0.length : Int) f1).bind fun a => some a)
def B2 (rec : (List Int) → Formula → Option (List Int)) : List Formula → (List Int) → Option (List Int)
 | [], a => some a
 | g :: c, a => ((rec a g).bind fun d => (B2 rec c d))
def Gg (rec : (List Int) → Formula → Option (List Int)) (c : List Int) (a : Formula) : Option (List Int) :=
 ((mZ c a.Op).bind fun i => (if (a.Op == 1) then ((pc i.2 a.kA).bind fun h => some h.2) else (((if (a.Op == 4) then ((mZ i.2 a.K).bind fun d => some d.2) else some i.2) : Option (List Int)).bind fun g => ((mZ g (a.Kids.length : Int)).bind fun j => B2 rec a.Kids j.2))))
def El : Nat → (List Int) → Formula → Option (List Int)
 | 0 => fun _ _ => none
 | n + 1 => Gg (El n)
def J2 (a : List Int) (c : Formula) : Option (Bool × (List Int)) :=
 ((qV c).bind fun d => (if (!d) then some (false, a) else ((El lE a c).bind fun g => some (true, g))))
def CD (a0 : Formula) : Option (List Int) :=
 ((J2 ([]) a0).bind fun c => ((qo c.2).bind fun a => some a))
def Ip (a0 g : Formula) : Option Int :=
 ((CD a0).bind fun a => ((CD g).bind fun c => ((Br a c).bind fun d => some d)))
def FB (a0 : List Formula) : Option (List Formula) :=
 ((EX a0).bind fun c => ((AV c (fun (x : (Formula × Formula)) => Ip x.1 x.2)).bind fun a => some a))
def wm (c : Int) (f1 : (Formula × Formula) → Option Bool) : Nat → (List Formula) → Int → Int → Option ((List Formula) × Int)
 | 0, _, _, _ => none
 | i + 1, a, d, g => (if (decide (g < ((a.length - (Int.toNat c) : Nat) : Int))) then ((((mC (a.drop (Int.toNat c)) g).bind fun m => ((mC (a.drop (Int.toNat c)) (wi0 .i64 (g - 1))).bind fun n => ((f1 (m, n)).bind fun j => (if (!j) then ((mC (a.drop (Int.toNat c)) g).bind fun o => ((mC a d).bind fun q => some ((a.set (Int.toNat d) o), (wi0 .i64 (d + 1))))) else some (a, d))))) : Option ((List Formula) × Int)).bind fun (h, k) => (wm c f1 i h k (wi0 .i64 (g + 1)))) else some (a, d))
def wk (a0 : List Formula) (f1 : (Formula × Formula) → Option Bool) : Nat → Int → Option (List Formula)
 | 0, _ => none
 | g + 1, a => (if (decide (a < (a0.length : Int))) then ((mC a0 a).bind fun i => ((mC a0 (wi0 .i64 (a - 1))).bind fun j => ((f1 (i, j)).bind fun h => (if h then ((nM (decide (0 ≤ a) && decide (a ≤ (a0.length : Int)))).bind fun _ => ((wm a f1 lE a0 a 1).bind fun (d, c) => ((nM (decide (0 ≤ c) && decide (c ≤ (d.length : Int)))).bind fun _ => ((nM (decide (0 ≤ c) && decide (c ≤ ((oI d (Int.toNat c) (⟨0, 0, (⟨zS, zS⟩ : kA), []⟩ : Formula)).length : Int)))).bind fun _ => some ((oI d (Int.toNat c) (⟨0, 0, (⟨zS, zS⟩ : kA), []⟩ : Formula)).take (Int.toNat c)))))) else (wk a0 f1 g (wi0 .i64 (a + 1))))))) else some a0)
def BK (a0 : List Formula) (f1 : (Formula × Formula) → Option Bool) : Option (List Formula) :=
 (if (decide ((a0.length : Int) < 2)) then some a0 else wk a0 f1 lE 1)
def nZ (h : List Formula) (f2 : (Formula × Formula) → Option Bool) : List Formula → Nat → Option Bool
 | [], _ => some true
 | g :: d, i95 => ((mC h (i95 : Int)).bind fun c => ((f2 (g, c)).bind fun a => (if (!a) then some false else (nZ h f2 d (i95 + 1)))))
def si (a0 a : List Formula) (f2 : (Formula × Formula) → Option Bool) : Option Bool :=
 (if ((a0.length : Int) != (a.length : Int)) then some false else nZ a f2 a0 0)
def GY (rec : Formula → Formula → Option Bool) (a0 a : Formula) : Option Bool :=
 ((if (a0.Op == a.Op) then some (a0.K == a.K) else some false).bind fun d => ((if d then some (kQ a0.kA a.kA) else some false).bind fun g => ((if g then ((si a0.Kids a.Kids (fun (x : (Formula × Formula)) => rec x.1 x.2)).bind fun c => some c) else some false).bind fun h => some h)))
def Fo : Nat → Formula → Formula → Option Bool
 | 0 => fun _ _ => none
 | n + 1 => GY (Fo n)
def vU (a0 : nx) (d : Int) (a2 : List Formula) : Option (Formula × nx) :=
 ((MA d a2).bind fun j => ((oQ j (fun (x : Formula) => CH x (wi0 .i64 (5 - d)))).bind fun g => (if g then some ((⟨(wi0 .i64 (5 - d)), 0, (⟨zS, zS⟩ : kA), []⟩ : Formula), a0) else ((FB j).bind fun h => ((BK h (fun (x : (Formula × Formula)) => Fo lE x.1 x.2)).bind fun a => (((if (decide ((a.length : Int) > 64)) then some (⟨12⟩ : nx) else some a0) : Option nx).bind fun c => (if ((a.length : Int) == 1) then ((mC a 0).bind fun i => some (i, c)) else some ((⟨d, 0, (⟨zS, zS⟩ : kA), a⟩ : Formula), c))))))))
def qG (a0 : nx) : List Formula → Int → (List Formula) → Option (Formula × nx)
 | [], c, a => (if (decide (c ≤ 0)) then (JU.bind fun n => some (n, a0)) else (if (decide (c > (a.length : Int))) then (KE.bind fun o => some (o, a0)) else (if (c == (a.length : Int)) then ((vU a0 2 a).bind fun h => some (h.1, h.2)) else (if (c == 1) then ((vU a0 3 a).bind fun i => some (i.1, i.2)) else ((FB a).bind fun q => some ((⟨4, c, (⟨zS, zS⟩ : kA), q⟩ : Formula), a0))))))
 | g :: d, c, a => ((BI g 2).bind fun k => (if k then (qG a0 d (wi0 .i64 (c - 1)) a) else ((BI g 3).bind fun m => (if (!m) then ((mM 72 a ([g])).bind fun j => (qG a0 d c j)) else (qG a0 d c a)))))
def CL (a0 : nx) (a : Int) (a2 : List Formula) : Option (Formula × nx) :=
 qG a0 a2 a ([])
def yj (rec : nx → Formula → Option (Formula × nx)) (m : Formula) : List Formula → (List Formula) → nx → Option (Formula × nx)
 | [], a, c => (if (m.Op == 4) then ((CL c m.K a).bind fun g => some (g.1, g.2)) else ((vU c m.Op a).bind fun h => some (h.1, h.2)))
 | k :: i, a, c => ((rec c k).bind fun d => ((mM 72 a ([d.1])).bind fun j => (yj rec m i j d.2)))
def BT (rec : nx → Formula → Option (Formula × nx)) (a0 : nx) (a : Formula) : Option (Formula × nx) :=
 (if (a.Op == 1) then some (a, a0) else yj rec a a.Kids ([]) a0)
def zN : Nat → nx → Formula → Option (Formula × nx)
 | 0 => fun _ _ => none
 | n + 1 => BT (zN n)
def IL (a0 : Formula) : Option (Formula × Int) :=
 ((qV a0).bind fun g => (if (!g) then some ((⟨0, 0, (⟨zS, zS⟩ : kA), []⟩ : Formula), 11) else ((zN lE (⟨0⟩ : nx) a0).bind fun a => ((if (a.2.e != 0) then some true else ((qV a.1).bind fun c => some (!c))).bind fun d => (if d then some ((⟨0, 0, (⟨zS, zS⟩ : kA), []⟩ : Formula), 12) else some (a.1, 0))))))
def Mn (a0 c : Formula) : Option (Formula × Int) :=
 ((IL (⟨2, 0, (⟨zS, zS⟩ : kA), [a0, c]⟩ : Formula)).bind fun a => some (a.1, a.2))
def Ff  : List Formula → Int → Int → Int → kA → (List Formula) → Option (Int × Int × Int × kA × (List Formula))
 | [], d, g, h, i, c => some (d, g, h, i, c)
 | k :: j, d, g, h, i, c => (if (d != 0) then some (d, g, h, i, c) else ((Mn (⟨g, h, i, c⟩ : Formula) k).bind fun a => (Ff j a.2 ((a.1).Op) ((a.1).K) ((a.1).kA) ((a.1).Kids))))
def OV (a0 : List Formula) : Option (Formula × Int) :=
 ((mC a0 0).bind fun x6 => ((IL x6).bind fun a => ((nM (decide (0 ≤ 1) && decide (1 ≤ (a0.length : Int)))).bind fun _ => ((Ff (a0.drop (Int.toNat 1)) a.2 ((a.1).Op) ((a.1).K) ((a.1).kA) ((a.1).Kids)).bind fun (c, g, h, i, d) => (if (c != 0) then some ((⟨0, 0, (⟨zS, zS⟩ : kA), []⟩ : Formula), c) else some ((⟨g, h, i, d⟩ : Formula), 0))))))
def GG  : List uJ → (List Formula) → Option (Formula × Int)
 | [], a => ((OV a).bind fun c => some (c.1, c.2))
 | h :: d, a => ((mM 72 a ([h.lp])).bind fun g => (GG d g))
def Rr (a0 : mg) (d : kB) : Option (Formula × Int) :=
 ((No a0 d).bind fun a => (if (!a.2) then some ((⟨0, 0, (⟨zS, zS⟩ : kA), []⟩ : Formula), 42) else ((Mr a0 d).bind fun c => GG c ([(a.1).lp]))))
def qp (rec : Formula → (kA → Option Bool) → Option Bool) (f1 : kA → Option Bool) (a0 : Formula) : List Formula → Int → Option Bool
 | [], a => (if (a0.Op == 2) then some (a == (a0.Kids.length : Int)) else (if (a0.Op == 3) then some (decide (a > 0)) else some (decide (a ≥ a0.K))))
 | g :: c, a => ((rec g f1).bind fun d => (if d then (qp rec f1 a0 c (wi0 .i64 (a + 1))) else (qp rec f1 a0 c a)))
def xQ (rec : Formula → (kA → Option Bool) → Option Bool) (a0 : Formula) (f1 : kA → Option Bool) : Option Bool :=
 (if (a0.Op == 1) then ((f1 a0.kA).bind fun a => some a) else qp rec f1 a0 a0.Kids 0)
def qU : Nat → Formula → (kA → Option Bool) → Option Bool
 | 0 => fun _ _ => none
 | n + 1 => xQ (qU n)
def sb (a0 : Formula) (f1 : kA → Option Bool) : Option Bool :=
 ((qV a0).bind fun d => ((if d then ((qU lE a0 f1).bind fun a => some a) else some false).bind fun c => some c))
def J4 (a0 : kA) (h : List (kA × (List (ByteArray × Bool)))) (a : List kB) (g : List (kA × (List kB))) (c : List (ByteArray × (List kB))) (d : List kF) (i : Int) (c1 : ByteArray) : Option Bool :=
 ((rN h a g c d i a0 c1).bind fun j => some j)
def Bj (a0 : mg) (d : ((List (kA × (List (ByteArray × Bool)))) × (List kB) × (List (kA × (List kB))) × (List (ByteArray × (List kB))) × (List kF) × Int × ByteArray)) : List nR → (List kB) → Option (List kB)
 | [], a => ((Bi a).bind fun j => some j)
 | g :: c, a => ((Rr a0 g.Signed.kB).bind fun r417 => ((if (r417.2 == 0) then ((sb r417.1 (fun (x : kA) => J4 x d.1 d.2.1 d.2.2.1 d.2.2.2.1 d.2.2.2.2.1 d.2.2.2.2.2.1 d.2.2.2.2.2.2)).bind fun i => some i) else some false).bind fun k => (if k then ((mM 136 a ([g.Signed.kB])).bind fun h => (Bj a0 d c h)) else (Bj a0 d c a))))
def Hl (a0 : mg) (a : List kB) (a2 : ByteArray) : Option (List kB) :=
 ((NT a a2).bind fun c => Bj a0 c a0.mY ([]))
def Fi (a0 k : mg) : Nat → (List kB) → (List kB) → Int → Option ((List kB) × (List kB) × Int)
 | 0, _, _, _ => none
 | i + 1, a, c, h => ((Hl a0 c k.Name).bind fun d => ((Hl k a a0.Name).bind fun g => ((if ((d.length : Int) == (a.length : Int)) then some ((g.length : Int) == (c.length : Int)) else some false).bind fun j => (if j then some (a, c, h) else (Fi a0 k i d g (wi0 .i64 (h + 1)))))))
def OT (a0 a : mg) : Option ((List kB) × (List kB) × Int) :=
 Fi a0 a lE ([]) ([]) 0
def qi (rec : (List Formula) → Option Int) : List Formula → Int → Option Int
 | [], c => some c
 | a :: g, c => ((rec a.Kids).bind fun d => (qi rec g (wi0 .i64 (c + (wi0 .i64 ((wi0 .i64 (1 + (wi0 .i64 (Int.tdiv (wi0 .i64 ((a.kA.kI.size : Int) + (a.kA.kU.size : Int))) 16)))) + d))))))
def wK (rec : (List Formula) → Option Int) (a0 : List Formula) : Option Int :=
 qi rec a0 0
def oa : Nat → (List Formula) → Option Int
 | 0 => fun _ => none
 | n + 1 => wK (oa n)
def tJ  : List uJ → Int → Option Int
 | [], c => some c
 | a :: d, c => ((oa lE ([a.lp])).bind fun g => ((oz a.qE).bind fun h => (tJ d (wi0 .i64 (c + (wi0 .i64 ((wi0 .i64 ((wi0 .i64 ((a.kA.kI.size : Int) + (a.kA.kU.size : Int))) + (wi0 .i64 (20 * g)))) + h)))))))
def tA (a0 : mg) : List nR → Int → Option Int
 | [], a => ((tJ a0.oX a).bind fun d => some d)
 | c :: g, a => ((((AA ([]) ([c.Signed])).bind fun j => some (j, ([c.lp]))) : Option (Int × (List Formula))).bind fun (k, h) => ((oa lE h).bind fun i => (tA a0 g (wi0 .i64 (a + (wi0 .i64 (k + (wi0 .i64 (20 * i)))))))))
def Az (a0 : mg) : Option Int :=
 tA a0 a0.mY (a0.Name.size : Int)
def rL (h : ByteArray) : List kF → (List kA) → Option (List kA)
 | [], a => some a
 | g :: c, a => (if (mh g.ly h) then ((mM 32 a ([g.kA])).bind fun d => (rL h c d)) else (rL h c a))
def xW (a0 : List kF) (a : ByteArray) : Option (List kA) :=
 rL a a0 ([])
def tH (rec : Formula → Option Int) : List Formula → Int → Option Int
 | [], a => some a
 | g :: d, a => ((rec g).bind fun c => (tH rec d (wi0 .i64 (a + c))))
def yX (rec : Formula → Option Int) (a0 : Formula) : Option Int :=
 tH rec a0.Kids 1
def ta : Nat → Formula → Option Int
 | 0 => fun _ => none
 | n + 1 => yX (ta n)
def uB (rec : Formula → Option Int) : List Formula → Int → Option Int
 | [], a => some (wi0 .i64 (a + 1))
 | g :: d, a => ((rec g).bind fun c => (uB rec d (if c > a then c else a)))
def zW (rec : Formula → Option Int) (a0 : Formula) : Option Int :=
 uB rec a0.Kids 0
def uh : Nat → Formula → Option Int
 | 0 => fun _ => none
 | n + 1 => zW (uh n)
def uQ (rec : Formula → Option Bool) : List Formula → Option Bool
 | [] => some true
 | d :: a => ((rec d).bind fun c => (if (!c) then some false else (uQ rec a)))
def zQ (rec : Formula → Option Bool) (a0 : Formula) : Option Bool :=
 (if (a0.Op == 1) then ((tf a0.kA).bind fun o => ((if o then some ((a0.Kids.length : Int) == 0) else some false).bind fun h => ((if h then some (a0.K == 0) else some false).bind fun i => some i))) else ((if (decide (a0.Op < 1)) then some true else some (decide (a0.Op > 4))).bind fun j => ((if j then some true else some (!(kQ a0.kA (⟨zS, zS⟩ : kA)))).bind fun k => ((if k then some true else some (decide ((a0.Kids.length : Int) > 8))).bind fun m => (if m then some false else ((if (decide (a0.Op < 4)) then some (a0.K != 0) else some false).bind fun n => ((if n then some true else ((if (a0.Op == 4) then ((if (decide ((a0.Kids.length : Int) < 1)) then some true else some (decide (a0.K < 0))).bind fun d => ((if d then some true else some (decide (a0.K > (a0.Kids.length : Int)))).bind fun g => some g)) else some false).bind fun c => some c)).bind fun a => (if a then some false else uQ rec a0.Kids))))))))
def uw : Nat → Formula → Option Bool
 | 0 => fun _ => none
 | n + 1 => zQ (uw n)
def xY (a0 : Formula) : Option Bool :=
 ((ta lE a0).bind fun h => ((if (decide (h ≤ 64)) then ((uh lE a0).bind fun c => some (decide (c ≤ 6))) else some false).bind fun d => ((if d then ((uw lE a0).bind fun a => some a) else some false).bind fun g => some g)))
def zq (d : kA) : List kA → Option Bool
 | [] => some false
 | c :: a => (if (kQ c d) then some true else (zq d a))
def zY (a0 : List kA) (a : kA) : Option Bool :=
 zq a a0
def sO (rec : Formula → (List kA) → Option Bool) (g : List kA) (a0 : Formula) : List Formula → Int → Option Bool
 | [], a => (if (a0.Op == 2) then some (a == (a0.Kids.length : Int)) else (if (a0.Op == 3) then some (decide (a > 0)) else some (decide (a ≥ a0.K))))
 | h :: c, a => ((rec h g).bind fun d => (if d then (sO rec g a0 c (wi0 .i64 (a + 1))) else (sO rec g a0 c a)))
def zV (rec : Formula → (List kA) → Option Bool) (a0 : Formula) (a : List kA) : Option Bool :=
 (if (a0.Op == 1) then ((zY a a0.kA).bind fun c => some c) else sO rec a a0 a0.Kids 0)
def rf : Nat → Formula → (List kA) → Option Bool
 | 0 => fun _ _ => none
 | n + 1 => zV (rf n)
def L7 (a0 d : mg) : Option ((List kB) × (List (kA × (List (ByteArray × Bool)))) × (List kB) × (List (kA × (List kB))) × (List (ByteArray × (List kB))) × (List kF) × Int × ByteArray) :=
 ((OT a0 d).bind fun c => ((vp c.2.1).bind fun a => some (c.2.1, a.1, a.2.1, a.2.2.1, a.2.2.2.1, a.2.2.2.2.1, a.2.2.2.2.2, d.Name)))
def I5 (a0 : kA) (h : List (kA × (List (ByteArray × Bool)))) (a : List kB) (g : List (kA × (List kB))) (c : List (ByteArray × (List kB))) (d : List kF) (j : Int) (i : ByteArray) (k : List nR) (m : List uJ) : Option Bool :=
 ((rN h a g c d j a0 i).bind fun n => some n)
def J9 (a0 c : mg) (a2 : Formula) : Option Bool :=
 ((L7 a0 c).bind fun a => ((sb a2 (fun (x : kA) => I5 x a.2.1 a.2.2.1 a.2.2.2.1 a.2.2.2.2.1 a.2.2.2.2.2.1 a.2.2.2.2.2.2.1 a.2.2.2.2.2.2.2 c.mY c.oX)).bind fun d => some d))
def Eu (a0 : ur) : Option ((List (kA × (List (ByteArray × Bool)))) × (List kB) × (List (kA × (List kB))) × (List (ByteArray × (List kB))) × (List kF) × Int × ByteArray × ByteArray × Int) :=
 ((vp a0.lL).bind fun a => some (a.1, a.2.1, a.2.2.1, a.2.2.2.1, a.2.2.2.2.1, a.2.2.2.2.2, a0.mg.Name, a0.od, a0.Room))
def zd (a0 : kA) (i : List (kA × (List (ByteArray × Bool)))) (a : List kB) (g : List (kA × (List kB))) (c : List (ByteArray × (List kB))) (d : List kF) (o : Int) (k : ByteArray) (h : List nR) (j : List uJ) (m : ByteArray) (u : Int) (n t : List kB) (q s : List kA) : Option Bool :=
 ((rN i a g c d o a0 m).bind fun v => some v)
def tM  : List kA → Int → Option Int
 | [], a => some a
 | c :: d, a => (tM d (wi0 .i64 (a + (wi0 .i64 ((wi0 .i64 (5 + (c.kI.size : Int))) + (c.kU.size : Int))))))
def Au (a0 : ur) : Option Int :=
 ((Az a0.mg).bind fun d => ((oz a0.lL).bind fun g => ((oz a0.Shown).bind fun h => ((mM 32 ([]) a0.mG).bind fun a => ((mM 32 a a0.sI).bind fun c => tM c (wi0 .i64 ((wi0 .i64 ((wi0 .i64 (d + (a0.od.size : Int))) + g)) + h)))))))
def tj (a0 : List kA) : Option (List kA) :=
 ((mM 32 ([]) a0).bind fun a => some a)
def nl (f1 : kA → Option Bool) : List kA → Nat → Option Int
 | [], _ => some (-1)
 | d :: a, i35 => ((f1 d).bind fun c => (if c then some (i35 : Int) else (nl f1 a (i35 + 1))))
def pq (a0 : List kA) (f1 : kA → Option Bool) : Option Int :=
 nl f1 a0 0
def ol (f1 : kA → Option Bool) : Nat → (List kA) → Int → Int → Option (List kA)
 | 0, _, _, _ => none
 | n321 + 1, c, a, d => (if (decide (d < (c.length : Int))) then ((((mC c d).bind fun g => ((f1 g).bind fun i => (if (!i) then ((mC c a).bind fun k => some ((c.set (Int.toNat a) g), (wi0 .i64 (a + 1)))) else some (c, a)))) : Option ((List kA) × Int)).bind fun (h, j) => (ol f1 n321 h j (wi0 .i64 (d + 1)))) else ((nM (decide (0 ≤ a) && decide (a ≤ (c.length : Int)))).bind fun _ => ((nM (decide (0 ≤ a) && decide (a ≤ ((oI c (Int.toNat a) (⟨zS, zS⟩ : kA)).length : Int)))).bind fun _ => some ((oI c (Int.toNat a) (⟨zS, zS⟩ : kA)).take (Int.toNat a)))))
def so (a0 : List kA) (f1 : kA → Option Bool) : Option (List kA) :=
 ((pq a0 f1).bind fun a => (if (a == (-1)) then some a0 else ol f1 lE a0 a (wi0 .i64 (a + 1))))
def Ay (a0 : kA) : Option Bool :=
 ((pF a0).bind fun a => some (!a))
def oY (c : Int) : Nat → (List kA) → Int → Int → Option ((List kA) × Int)
 | 0, _, _, _ => none
 | i + 1, a, d, g => (if (decide (g < ((a.length - (Int.toNat c) : Nat) : Int))) then ((((mC (a.drop (Int.toNat c)) g).bind fun k => ((mC (a.drop (Int.toNat c)) (wi0 .i64 (g - 1))).bind fun m => (if (!(kQ k m)) then ((mC (a.drop (Int.toNat c)) g).bind fun n => ((mC a d).bind fun o => some ((a.set (Int.toNat d) n), (wi0 .i64 (d + 1))))) else some (a, d)))) : Option ((List kA) × Int)).bind fun (h, j) => (oY c i h j (wi0 .i64 (g + 1)))) else some (a, d))
def pf (a0 : List kA) : Nat → Int → Option (List kA)
 | 0, _ => none
 | g + 1, a => (if (decide (a < (a0.length : Int))) then ((mC a0 a).bind fun h => ((mC a0 (wi0 .i64 (a - 1))).bind fun i => (if (kQ h i) then ((nM (decide (0 ≤ a) && decide (a ≤ (a0.length : Int)))).bind fun _ => ((oY a lE a0 a 1).bind fun (d, c) => ((nM (decide (0 ≤ c) && decide (c ≤ (d.length : Int)))).bind fun _ => ((nM (decide (0 ≤ c) && decide (c ≤ ((oI d (Int.toNat c) (⟨zS, zS⟩ : kA)).length : Int)))).bind fun _ => some ((oI d (Int.toNat c) (⟨zS, zS⟩ : kA)).take (Int.toNat c)))))) else (pf a0 g (wi0 .i64 (a + 1)))))) else some a0)
def uS (a0 : List kA) : Option (List kA) :=
 (if (decide ((a0.length : Int) < 2)) then some a0 else pf a0 lE 1)
def CO (a0 : List kA) : Option (List kA) :=
 ((tj a0).bind fun g => ((so g (fun (x : kA) => Ay x)).bind fun a => ((yF (fun (x : (kA × kA)) => nB x.1 x.2) a).bind fun c => ((uS c).bind fun d => some d))))
def ry (g : List kA) : List kA → Nat → Option Bool
 | [], _ => some true
 | d :: c, i90 => ((mC g (i90 : Int)).bind fun a => (if (!(kQ d a)) then some false else (ry g c (i90 + 1))))
def wh (a0 a : List kA) : Option Bool :=
 (if ((a0.length : Int) != (a.length : Int)) then some false else ry a a0 0)
def tq (a : List kA) : List kA → Bool → kA → Option (Bool × kA)
 | [], d, g => some (d, g)
 | c :: h, d, g => ((tf c).bind fun i => ((if i then ((if ((a.length : Int) == 0) then some true else ((mC a (wi0 .i64 ((a.length : Int) - 1))).bind fun s => ((rq s c).bind fun k => some k))).bind fun q => some q) else some false).bind fun m => ((if m then ((if (!d) then some true else ((rq c g).bind fun j => some j)).bind fun o => some o) else some false).bind fun n => (if n then (tq a h true c) else (tq a h d g)))))
def vI (a0 : List kA) : Nat → (List kA) → Option (List kA)
 | 0, _ => none
 | d + 1, a => ((tq a a0 false (⟨zS, zS⟩ : kA)).bind fun (g, h) => (if (!g) then some a else ((mM 32 a ([h])).bind fun c => (vI a0 d c))))
def EY (a0 : List kA) : Option (List kA) :=
 vI a0 lE ([])
def yy (g : List kA) : List kA → Nat → Option Bool
 | [], _ => some true
 | d :: c, i90 => ((mC g (i90 : Int)).bind fun a => (if (!(kQ d a)) then some false else (yy g c (i90 + 1))))
def DW (a0 a : List kA) : Option Bool :=
 (if ((a0.length : Int) != (a.length : Int)) then some false else yy a a0 0)
def tZ (c : Int) : Option (List kY) :=
 (if (decide (c < 0)) then none else (((if (decide ((wi0 .i64 (c - (wi0 .i64 (0 - 0)))) > 0)) then ((Ki 184 (⟨(⟨0, (⟨zS, zS⟩ : kA), zS, (⟨zS, zS⟩ : kA), (⟨zS, zS⟩ : kA), zS⟩ : kB), (⟨(⟨zS, zS⟩ : kA), zS⟩ : kF)⟩ : kY) (wi0 .i64 (c - (wi0 .i64 (0 - 0))))).bind fun a => ((nM (decide (0 ≤ 0) && decide (0 ≤ (a.length : Int)))).bind fun _ => some (a.take (Int.toNat 0)))) else some ([])) : Option (List kY)).bind fun d => some d))
def pw  : List (List kY) → (List kY) → Option (List kY)
 | [], a => some a
 | g :: c, a => ((mM 184 a g).bind fun d => (pw c d))
def pt (a0 : List (List kY)) : List (List kY) → Int → Option (List kY)
 | [], a => ((tZ a).bind fun h => ((pw a0 h).bind fun c => some c))
 | d :: g, a => (if (decide ((wi0 .i64 (a + (d.length : Int))) < 0)) then none else (pt a0 g (wi0 .i64 (a + (d.length : Int)))))
def xV (a0 : List (List kY)) : Option (List kY) :=
 pt a0 a0 0
def rV  : List kY → (List (kF × Bool)) → (List kY) → Option (List kY)
 | [], a, c => some c
 | g :: d, a, c => (if (!(zD nq a g.kF false)) then ((mM 184 c ([g])).bind fun h => (rV d (ow nq a g.kF true) h)) else (rV d a c))
def AB (a0 : List (List kY)) : Option (List kY) :=
 ((xV a0).bind fun a => rV a ([]) ([]))
def yG (g : List kY) : List kY → Nat → Option Bool
 | [], _ => some true
 | d :: c, i90 => ((mC g (i90 : Int)).bind fun a => (if (!(Dj d a)) then some false else (yG g c (i90 + 1))))
def Dx (a0 a : List kY) : Option Bool :=
 (if ((a0.length : Int) != (a.length : Int)) then some false else yG a a0 0)
def we  : List kY → (List kF) → Option (List kF)
 | [], a => some a
 | g :: d, a => ((mM 48 a ([g.kF])).bind fun c => (we d c))
def yl (a0 : List kY) : Option (List kF) :=
 we a0 ([])
def vP  : List kF → (List ByteArray) → Option (List ByteArray)
 | [], a => some a
 | g :: d, a => ((mM 16 a ([g.ly])).bind fun c => (vP d c))
def GN (a0 : List kF) : Option (List ByteArray) :=
 vP a0 ([])
def Bl (a0 : kY) (i : List kF) : Option Bool :=
 ((wF a0.kB).bind fun a => ((if a then some (kQ a0.kF.kA a0.kB.Head) else some false).bind fun g => ((if g then ((GN i).bind fun c => ((yV i a0.kB c a0.kF.ly).bind fun d => some d)) else some false).bind fun h => some h)))
def vW (n : List kB) (a0 : List kY) (a2 : kF) : List kY → Nat → Option (Int × Int)
 | [], _ => ((yl a0).bind fun j => ((tY j a2.kA a2.ly).bind fun k => (if (!k) then some ((a0.length : Int), 42) else some ((a0.length : Int), 0))))
 | c :: d, a => ((EZ n c.kB).bind fun g => ((if (!g) then some true else ((nM (decide (0 ≤ (a : Int)) && decide ((a : Int) ≤ (a0.length : Int)))).bind fun _ => ((yl (a0.take (Int.toNat (a : Int)))).bind fun h => ((Bl c h).bind fun i => some (!i))))).bind fun m => (if m then some ((a : Int), 50) else (vW n a0 a2 d (a + 1)))))
def Gz (a0 : List kY) (a : List kB) (a2 : kF) : Option (Int × Int) :=
 vW a a0 a2 a0 0
def tQ (k : List kB) (j : List kF) (a2 : kF) (a0 : List kY) : List kY → Nat → Option (Int × Int)
 | [], _ => ((re j a2).bind fun h => (if (!h) then some ((a0.length : Int), 42) else some ((a0.length : Int), 0)))
 | a :: c, i339 => ((zI k a.kB).bind fun d => ((if (!d) then some true else ((nM (decide (0 ≤ (i339 : Int)) && decide ((i339 : Int) ≤ (j.length : Int)))).bind fun _ => ((uP a (j.take (Int.toNat (i339 : Int)))).bind fun g => some (!g)))).bind fun i => (if i then some ((i339 : Int), 50) else (tQ k j a2 a0 c (i339 + 1)))))
def yc (a0 : List kY) (a : List kB) (a2 : kF) : Option (Int × Int) :=
 ((wE a0).bind fun c => tQ a c a2 a0 a0 0)
def vT  : List kY → Int → Option Int
 | [], a => some a
 | c :: g, a => ((oz ([c.kB])).bind fun d => (vT g (wi0 .i64 (a + (wi0 .i64 ((wi0 .i64 ((wi0 .i64 (d + (c.kF.ly.size : Int))) + (c.kF.kA.kI.size : Int))) + (c.kF.kA.kU.size : Int)))))))
def Cy (a0 : List kY) : Option Int :=
 vT a0 0
def rW (rec : Formula → Option (List kA)) : List Formula → (List kA) → Option (List kA)
 | [], a => some a
 | h :: c, a => ((rec h).bind fun g => ((mM 32 a g).bind fun d => (rW rec c d)))
def xM (rec : Formula → Option (List kA)) (a0 : Formula) : Option (List kA) :=
 (if (a0.Op == 1) then some [a0.kA] else rW rec a0.Kids ([]))
def su : Nat → Formula → Option (List kA)
 | 0 => fun _ => none
 | n + 1 => xM (su n)
def uM (a0 : Formula) : Option (List kA) :=
 ((su lE a0).bind fun c => ((CO c).bind fun a => some a))
def ru (d : kA) : List kA → Nat → Option Int
 | [], _ => some (-1)
 | c :: a, i46 => (if (kQ d c) then some (i46 : Int) else (ru d a (i46 + 1)))
def yu (a0 : List kA) (a : kA) : Option Int :=
 ru a a0 0
def xf (a0 : List kA) (a : kA) : Option Bool :=
 ((yu a0 a).bind fun c => some (decide (c ≥ 0)))
def CT (a0 : List kA) (a : kA) : Option Bool :=
 ((xf a0 a).bind fun c => some c)
def Aq (a0 : ur) : Option (List kA) :=
 ((zn a0.lL).bind fun a => ((xW a a0.od).bind fun c => some c))
def og (g : Int) : List kA → Nat → (List kA) → Option (List kA)
 | [], _, a => some a
 | h :: c, i72, a => ((nM (decide (0 ≤ (i72 : Int)))).bind fun _ => (if ((wi0 .i64 (BitVec.ofInt (IntKind.bits .i64) (Int.fdiv g (2 ^ min (Int.toNat (i72 : Int)) (IntKind.bits .i64))) &&& BitVec.ofInt (IntKind.bits .i64) 1).toNat) == 1) then ((mM 32 a ([h])).bind fun d => (og g c (i72 + 1) d)) else (og g c (i72 + 1) a)))
def rG (a0 : List kA) (a : Int) : Option (List kA) :=
 og a a0 0 ([])
def ql (a0 : kA) (a : List kA) : Option Bool :=
 ((CT a a0).bind fun c => some c)
def oG (a0 : Formula) (a : List kA) : Option Bool :=
 ((sb a0 (fun (x : kA) => ql x a)).bind fun c => some c)
def po (c : Nat) (g : List Bool) (h : Bool) : List kA → Nat → Bool → Option Bool
 | [], _, d => some d
 | n :: i, a, d => ((if d then some true else ((nM (decide (0 ≤ (a : Int)))).bind fun _ => ((if ((wi0 .i64 (BitVec.ofInt (IntKind.bits .i64) (Int.fdiv (c : Int) (2 ^ min (Int.toNat (a : Int)) (IntKind.bits .i64))) &&& BitVec.ofInt (IntKind.bits .i64) 1).toNat) == 1) then ((nM (decide (0 ≤ (a : Int)))).bind fun _ => ((mC (g.set (Int.toNat (c : Int)) h) (wi0 .i64 (BitVec.ofInt (IntKind.bits .i64) (c : Int) &&& ~~~ BitVec.ofInt (IntKind.bits .i64) (wi0 .i64 (1 * 2 ^ min (Int.toNat (a : Int)) (IntKind.bits .i64)))).toNat)).bind fun m => some m)) else some false).bind fun k => some k))).bind fun j => (po c g h i (a + 1) j))
def ph (o : List kA) (a0 : Formula) : List Bool → Nat → (List Bool) → (List Int) → Option (List Int)
 | [], _, c, d => some d
 | q :: h, a, c, d => ((rG o (a : Int)).bind fun j => ((oG a0 j).bind fun g => ((mC c (a : Int)).bind fun s => ((po a c g o 0 false).bind fun k => ((mC (c.set (Int.toNat (a : Int)) g) (a : Int)).bind fun m => ((if m then some (!k) else some false).bind fun n => (if n then ((mM 8 d ([(a : Int)])).bind fun i => (ph o a0 h (a + 1) (c.set (Int.toNat (a : Int)) g) i)) else (ph o a0 h (a + 1) (c.set (Int.toNat (a : Int)) g) d))))))))
def xA (a0 : Formula) (a : List kA) : Option (List Int) :=
 ((nM (decide (0 ≤ (a.length : Int)))).bind fun _ => ((FI 1 false (wi0 .i64 (1 * 2 ^ min (Int.toNat (a.length : Int)) (IntKind.bits .i64)))).bind fun c => ph a a0 c 0 c ([])))
def yB (a0 : Int) : Option Bool :=
 some (a0 != a0)
def vd (a0 a : Int) : Option Int :=
 ((yB a0).bind fun d => ((yB a).bind fun c => (if d then (if c then some 0 else some (-1)) else (if c then some 1 else (if (decide (a0 < a)) then some (-1) else (if (decide (a0 > a)) then some 1 else some 0))))))
def lH (g : List kA) (f2 : (kA × kA) → Option Int) (a0 : List kA) : List kA → Nat → Option Int
 | [], _ => (if (decide ((a0.length : Int) < (g.length : Int))) then some (-1) else some 0)
 | h :: d, i75 => (if (decide ((i75 : Int) ≥ (g.length : Int))) then some 1 else ((mC g (i75 : Int)).bind fun c => ((f2 (h, c)).bind fun a => (if (a != 0) then some a else (lH g f2 a0 d (i75 + 1))))))
def nk (a0 a : List kA) (f2 : (kA × kA) → Option Int) : Option Int :=
 lH a f2 a0 a0 0
def oZ (a0 a : List kA) : Option Int :=
 ((vd (a0.length : Int) (a.length : Int)).bind fun c => ((nk a0 a (fun (x : (kA × kA)) => nB x.1 x.2)).bind fun d => ((sv ([c, d])).bind fun g => some g)))
def pX (j : List kA) : List Int → (List (List kA)) → Option ((List (List kA)) × Int)
 | [], a => (if (decide ((a.length : Int) > 128)) then some ([], 12) else ((EG (fun (x : ((List kA) × (List kA))) => oZ x.1 x.2) a).bind fun h => some (h, 0)))
 | i :: c, a => ((rG j i).bind fun g => ((mM 24 a ([g])).bind fun d => (pX j c d)))
def sG (a0 : Formula) : Option ((List (List kA)) × Int) :=
 ((qV a0).bind fun d => (if (!d) then some ([], 11) else ((uM a0).bind fun c => (if (decide ((c.length : Int) > 12)) then some ([], 12) else ((xA a0 c).bind fun a => pX c a ([]))))))
def oA (a0 : List kA) (f1 : kA → Option Bool) : Option Bool :=
 ((pq a0 f1).bind fun a => some (decide (a ≥ 0)))
def wX (a0 : kA) (a : kA → Option Bool) : Option Bool :=
 ((a a0).bind fun c => some (!c))
def uL (f1 : kA → Option Bool) : List (List kA) → Option ((List kA) × Bool)
 | [] => some ([], false)
 | c :: d => ((oA c (fun (x : kA) => wX x f1)).bind fun a => (if (!a) then some (c, true) else (uL f1 d)))
def yQ (a0 : Formula) (f1 : kA → Option Bool) : Option ((List kA) × Bool) :=
 ((sG a0).bind fun a => ((if (a.2 != 0) then some true else some false).bind fun c => (if c then some ([], false) else uL f1 a.1)))
structure lc where
 b : List Int
 mU : Bool
def vZ (a c : List Int) : Option (Bool × (List Int)) :=
 ((mM 1 a c).bind fun d => some (true, d))
def vk (c : List Int) (a : Bool) : Option Bool :=
 some a
def na (a0 : lc) (a : Int) : Option (Int ⊕ Unit) :=
 ((if (!a0.mU) then some (a != 0) else some false).bind fun x2 => (if x2 then some (Sum.inl a) else some (Sum.inr ())))
def vw (a0 : lc) (q : Int) : Option (Int ⊕ (Int × lc)) :=
 (((if (q == 9) then ((na a0 11).bind fun m => match m with | .inl h => some (Sum.inl (Sum.inl h)) | .inr v => some (Sum.inr ())) else some (Sum.inr ())) : Option ((Int ⊕ (Int × lc)) ⊕ Unit)).bind fun s => match s with | .inl i => some i | .inr _ => (((if ((a0.b.length : Int) == 0) then ((na a0 10).bind fun k => match k with | .inl d => some (Sum.inl (Sum.inl d)) | .inr u => some (Sum.inr ())) else some (Sum.inr ())) : Option ((Int ⊕ (Int × lc)) ⊕ Unit)).bind fun s => match s with | .inl g => some g | .inr _ => ((mC a0.b 0).bind fun o => ((nM (decide (0 ≤ 1) && decide (1 ≤ (a0.b.length : Int)))).bind fun _ => ((((if (o == 0) then some (decide (q > 0)) else some false).bind fun n => (if n then ((na (⟨(a0.b.drop (Int.toNat 1)), a0.mU⟩ : lc) 11).bind fun j => match j with | .inl a => some (Sum.inl (Sum.inl a)) | .inr t => some (Sum.inr ())) else some (Sum.inr ()))) : Option ((Int ⊕ (Int × lc)) ⊕ Unit)).bind fun s => match s with | .inl c => some c | .inr _ => some (Sum.inr (o, (⟨(a0.b.drop (Int.toNat 1)), a0.mU⟩ : lc))))))))
def nU (o : Int) : Nat → Int → Int → (List Int) → Bool → Option (Int ⊕ (Int × lc))
 | 0, _, _, _, _ => none
 | n161 + 1, d, c, g, n => ((vw (⟨g, n⟩ : lc) c).bind fun m => match m with | .inl h => some (Sum.inl h) | .inr a => ((nM (decide (0 ≤ (wi0 .i64 (7 * c))))).bind fun _ => (if (decide (a.1 < 128)) then (((if (decide ((wi0 .i64 (BitVec.ofInt (IntKind.bits .i64) d ||| BitVec.ofInt (IntKind.bits .i64) (wi0 .i64 ((wi0 .i64 (IntKind.u8.wrap (BitVec.ofInt (IntKind.bits .u8) a.1 &&& BitVec.ofInt (IntKind.bits .u8) 127).toNat)) * 2 ^ min (Int.toNat (wi0 .i64 (7 * c))) (IntKind.bits .i64)))).toNat) > o)) then ((na a.2 12).bind fun k => match k with | .inl i => some (Sum.inl (Sum.inl i)) | .inr q => some (Sum.inr ())) else some (Sum.inr ())) : Option ((Int ⊕ (Int × lc)) ⊕ Unit)).bind fun s => match s with | .inl j => some j | .inr _ => some (Sum.inr ((wi0 .i64 (BitVec.ofInt (IntKind.bits .i64) d ||| BitVec.ofInt (IntKind.bits .i64) (wi0 .i64 ((wi0 .i64 (IntKind.u8.wrap (BitVec.ofInt (IntKind.bits .u8) a.1 &&& BitVec.ofInt (IntKind.bits .u8) 127).toNat)) * 2 ^ min (Int.toNat (wi0 .i64 (7 * c))) (IntKind.bits .i64)))).toNat), a.2))) else (nU o n161 (wi0 .i64 (BitVec.ofInt (IntKind.bits .i64) d ||| BitVec.ofInt (IntKind.bits .i64) (wi0 .i64 ((wi0 .i64 (IntKind.u8.wrap (BitVec.ofInt (IntKind.bits .u8) a.1 &&& BitVec.ofInt (IntKind.bits .u8) 127).toNat)) * 2 ^ min (Int.toNat (wi0 .i64 (7 * c))) (IntKind.bits .i64)))).toNat) (wi0 .i64 (c + 1)) ((a.2).b) ((a.2).mU)))))
def nt (a0 : lc) (a : Int) : Option (Int ⊕ (Int × lc)) :=
 ((vk a0.b a0.mU).bind fun c => (if c then some (Sum.inr (0, a0)) else nU a lE 0 0 a0.b a0.mU))
def vv (a0 : lc) (o : Int) : Option (Int ⊕ ((List Int) × lc)) :=
 ((vk a0.b a0.mU).bind fun q => (if q then some (Sum.inr ([], a0)) else ((nt a0 9223372036854775807).bind fun j => match j with | .inl k => some (Sum.inl k) | .inr a => (((if (decide (a.1 > o)) then ((na a.2 12).bind fun h => match h with | .inl c => some (Sum.inl (Sum.inl c)) | .inr t => some (Sum.inr ())) else (if (decide (a.1 > (((a.2).b).length : Int))) then ((na a.2 10).bind fun i => match i with | .inl d => some (Sum.inl (Sum.inl d)) | .inr n => some (Sum.inr ())) else some (Sum.inr ()))) : Option ((Int ⊕ ((List Int) × lc)) ⊕ Unit)).bind fun s => match s with | .inl g => some g | .inr _ => ((nM (decide (0 ≤ a.1) && decide (a.1 ≤ (((a.2).b).length : Int)))).bind fun _ => ((pL (((a.2).b).take (Int.toNat a.1))).bind fun m => ((nM (decide (0 ≤ a.1) && decide (a.1 ≤ (((a.2).b).length : Int)))).bind fun _ => some (Sum.inr (m, (⟨(((a.2).b).drop (Int.toNat a.1)), (a.2).mU⟩ : lc))))))))))
def uq (a0 : lc) : Option (Int ⊕ (ByteArray × lc)) :=
 ((vv a0 16).bind fun i => match i with | .inl c => some (Sum.inl c) | .inr a => ((qm (Cl a.1)).bind fun g => (if (!g) then ((na a.2 30).bind fun h => match h with | .inl d => some (Sum.inl d) | .inr j => some (Sum.inr (zS, a.2))) else some (Sum.inr ((Cl a.1), a.2)))))
def sF (a0 : lc) : Option (Int ⊕ (kA × lc)) :=
 ((uq a0).bind fun h => match h with | .inl c => some (Sum.inl c) | .inr i => ((uq i.2).bind fun g => match g with | .inl d => some (Sum.inl d) | .inr a => some (Sum.inr ((⟨i.1, a.1⟩ : kA), a.2))))
def Bo (a0 : lc) : Option (Int ⊕ (kB × lc)) :=
 ((nt a0 9223372036854775807).bind fun U => match U with | .inl Y => some (Sum.inl Y) | .inr c => ((((if (decide (c.1 < 1)) then some true else some (decide (c.1 > 4))).bind fun W => (if W then ((na c.2 11).bind fun T => match T with | .inl A => some (Sum.inl (Sum.inl A)) | .inr a6 => some (Sum.inr ())) else some (Sum.inr ()))) : Option ((Int ⊕ (kB × lc)) ⊕ Unit)).bind fun s => match s with | .inl D => some D | .inr _ => ((sF c.2).bind fun R => match R with | .inl Z => some (Sum.inl Z) | .inr a => (((if (c.1 == 1) then ((uq a.2).bind fun I => match I with | .inl t => some (Sum.inl (Sum.inl t)) | .inr g => some (Sum.inr ((⟨c.1, a.1, g.1, (⟨zS, zS⟩ : kA), (⟨zS, zS⟩ : kA), zS⟩ : kB), ((g.2).b), ((g.2).mU)))) else (if (c.1 == 2) then ((sF a.2).bind fun J => match J with | .inl u => some (Sum.inl (Sum.inl u)) | .inr h => some (Sum.inr ((⟨c.1, a.1, zS, h.1, (⟨zS, zS⟩ : kA), zS⟩ : kB), ((h.2).b), ((h.2).mU)))) else (if (c.1 == 3) then ((sF a.2).bind fun M => match M with | .inl v => some (Sum.inl (Sum.inl v)) | .inr m => ((uq m.2).bind fun L => match L with | .inl w => some (Sum.inl (Sum.inl w)) | .inr i => some (Sum.inr ((⟨c.1, a.1, zS, m.1, (⟨zS, zS⟩ : kA), i.1⟩ : kB), ((i.2).b), ((i.2).mU))))) else (if (c.1 == 4) then ((sF a.2).bind fun Q => match Q with | .inl x => some (Sum.inl (Sum.inl x)) | .inr n => ((sF n.2).bind fun P => match P with | .inl y => some (Sum.inl (Sum.inl y)) | .inr j => some (Sum.inr ((⟨c.1, a.1, zS, n.1, j.1, zS⟩ : kB), ((j.2).b), ((j.2).mU))))) else some (Sum.inr ((⟨c.1, a.1, zS, (⟨zS, zS⟩ : kA), (⟨zS, zS⟩ : kA), zS⟩ : kB), ((a.2).b), ((a.2).mU))))))) : Option ((Int ⊕ (kB × lc)) ⊕ (kB × (List Int) × Bool))).bind fun s => match s with | .inl z => some z | .inr (o, d, k) => ((pI o).bind fun E => (if (!E) then ((na (⟨d, k⟩ : lc) 11).bind fun G => match G with | .inl q => some (Sum.inl q) | .inr a1 => some (Sum.inr ((⟨0, (⟨zS, zS⟩ : kA), zS, (⟨zS, zS⟩ : kA), (⟨zS, zS⟩ : kA), zS⟩ : kB), (⟨d, k⟩ : lc)))) else some (Sum.inr (o, (⟨d, k⟩ : lc)))))))))
structure lX where
 State : Int
 ox : Int
 lV : List kA
 lW : List kY
def qQ (a0 : ur) (a2 a3 : Int) (c : ((List kA) × Bool)) : List kA → (List kY) → Option lX
 | [], a => some (⟨a2, a3, c.1, a⟩ : lX)
 | i :: d, a => ((vM a0.lL (⟨i, a0.od⟩ : kF)).bind fun g => ((AB ([a, g.1])).bind fun h => (qQ a0 a2 a3 c d h)))
def oK (a0 : ur) (g : Formula) (a2 a3 : Int) (a4 : Bool) : Option lX :=
 ((if (!a4) then some true else some (a2 != 1)).bind fun d => (if d then some (⟨a2, a3, [], []⟩ : lX) else ((Eu a0).bind fun a => ((yQ g (fun (x : kA) => zd x a.1 a.2.1 a.2.2.1 a.2.2.2.1 a.2.2.2.2.1 a.2.2.2.2.2.1 a.2.2.2.2.2.2.1 a0.mg.mY a0.mg.oX a.2.2.2.2.2.2.2.1 a.2.2.2.2.2.2.2.2 a0.lL a0.Shown a0.mG a0.sI)).bind fun c => (if (!c.2) then some (⟨a2, a3, [], []⟩ : lX) else qQ a0 a2 a3 c c.1 ([]))))))
def wV (a0 : kA) : Option Bool :=
 ((pF a0).bind fun a => some (!a))
def yA (a0 : lX) : Option Bool :=
 ((if (decide (a0.State ≥ 0)) then some (decide (a0.State ≤ 3)) else some false).bind fun x8 => ((if x8 then some (decide (a0.ox ≥ 0)) else some false).bind fun c => ((if c then some (decide (a0.ox ≤ 99)) else some false).bind fun d => ((if d then some (decide ((a0.lV.length : Int) ≤ 64)) else some false).bind fun g => ((if g then ((oA a0.lV (fun (x : kA) => wV x)).bind fun a => some (!a)) else some false).bind fun h => some h)))))
def pG (f1 : kY → Option Bool) : List kY → Nat → Option Int
 | [], _ => some (-1)
 | d :: a, i35 => ((f1 d).bind fun c => (if c then some (i35 : Int) else (pG f1 a (i35 + 1))))
def wq (a0 : List kY) (f1 : kY → Option Bool) : Option Int :=
 pG f1 a0 0
def rE (a0 : List kY) (f1 : kY → Option Bool) : Option Bool :=
 ((wq a0 f1).bind fun a => some (decide (a ≥ 0)))
def Ak (a0 : kY) : Option Bool :=
 ((pI a0.kB).bind fun d => ((if d then some (kQ a0.kF.kA a0.kB.Head) else some false).bind fun x7 => ((if x7 then ((qm a0.kF.ly).bind fun a => some a) else some false).bind fun c => some c)))
def zG (a0 : kY) : Option Bool :=
 ((Ak a0).bind fun a => some (!a))
def tz  : List kY → (List Int) → Option (Bool × (List Int))
 | [], a => some (true, a)
 | c :: d, a => ((vV c.kB).bind fun g => ((vZ a g).bind fun h => ((rA h.2 c.kF.ly).bind fun i => (tz d i.2))))
def As (a : List Int) (d : List kY) : Option (Bool × (List Int)) :=
 ((if (decide ((d.length : Int) > 256)) then some true else ((rE d (fun (x : kY) => zG x)).bind fun c => some c)).bind fun x5 => (if x5 then some (false, a) else ((mZ a (d.length : Int)).bind fun g => tz d g.2)))
def rZ (g : List Int) : List kA → (List Int) → Option (Bool × (List Int))
 | [], a => ((qo g).bind fun i => ((vZ a i).bind fun c => some (c.1, c.2)))
 | j :: d, a => ((pc a j).bind fun h => (rZ g d h.2))
def wP (a : List Int) (d : lX) : Option (Bool × (List Int)) :=
 ((yA d).bind fun m => (((if (!m) then some (true, ([])) else ((As ([]) d.lW).bind fun c => some ((!c.1), c.2))) : Option (Bool × (List Int))).bind fun (k, g) => (if k then some (false, a) else ((mZ a d.State).bind fun h => ((mZ h.2 d.ox).bind fun i => ((mZ i.2 (d.lV.length : Int)).bind fun j => rZ g d.lV j.2))))))
def rO (s : (Int × lc)) : Nat → (List kY) → Int → (List Int) → Bool → Option (Int ⊕ ((List kY) × lc))
 | 0, _, _, _, _ => none
 | k + 1, d, h, g, i => (if (decide (h < s.1)) then ((Bo (⟨g, i⟩ : lc)).bind fun q => match q with | .inl m => some (Sum.inl m) | .inr a => ((uq a.2).bind fun o => match o with | .inl n => some (Sum.inl n) | .inr c => ((mM 184 d ([(⟨a.1, (⟨a.1.Head, c.1⟩ : kF)⟩ : kY)])).bind fun j => (rO s k j (wi0 .i64 (h + 1)) ((c.2).b) ((c.2).mU))))) else some (Sum.inr (d, (⟨g, i⟩ : lc))))
def AD (a0 : lc) (g : Int) : Option (Int ⊕ ((List kY) × lc)) :=
 ((nt a0 g).bind fun a => match a with | .inl c => some (Sum.inl c) | .inr d => rO d lE ([]) 0 ((d.2).b) ((d.2).mU))
def qh (q u o : (Int × lc)) : Nat → Int → (List kA) → (List Int) → Bool → Option (Int ⊕ (lX × lc))
 | 0, _, _, _, _ => none
 | k + 1, h, d, g, i => (if (decide (h < q.1)) then ((sF (⟨g, i⟩ : lc)).bind fun s => match s with | .inl m => some (Sum.inl m) | .inr a => ((mM 32 d ([a.1])).bind fun j => (qh q u o k (wi0 .i64 (h + 1)) j ((a.2).b) ((a.2).mU)))) else ((AD (⟨g, i⟩ : lc) 256).bind fun t => match t with | .inl n => some (Sum.inl n) | .inr c => some (Sum.inr ((⟨u.1, o.1, d, c.1⟩ : lX), (⟨(c.2).b, (c.2).mU⟩ : lc)))))
def wU (a0 : lc) : Option (Int ⊕ (lX × lc)) :=
 ((nt a0 3).bind fun h => match h with | .inl i => some (Sum.inl i) | .inr m => ((nt m.2 99).bind fun g => match g with | .inl j => some (Sum.inl j) | .inr c => ((nt c.2 64).bind fun d => match d with | .inl k => some (Sum.inl k) | .inr a => qh a m c lE 0 ([]) ((a.2).b) ((a.2).mU))))
def Ch (a0 : lc) (g : lX) : Option (Int ⊕ (lc × lX)) :=
 ((wU a0).bind fun c => match c with | .inl a => some (Sum.inl a) | .inr d => some (Sum.inr (d.2, d.1)))
def wx (a0 : List Int) (a : lX) : Option (Int × lX) :=
 ((pL a0).bind fun l => ((Ch (⟨l, false⟩ : lc) a).bind fun s => some ((Jy (fun r => (r.1).b) s), (match s with | .inl _ => a | .inr r => r.2))))
def ul (a0 : lX) (g : List kB) (a3 : ByteArray) : List kA → Option Int
 | [] => some 0
 | d :: c => ((yc a0.lW g (⟨d, a3⟩ : kF)).bind fun a => (if (a.2 != 0) then some a.2 else (ul a0 g a3 c)))
def nv (a0 : lX) (d : List kB) (a2 : Formula) (a3 : ByteArray) : Option Int :=
 (if (a0.State != 1) then some 43 else ((oG a2 a0.lV).bind fun c => (if (!c) then some 44 else ((yc a0.lW d (⟨(⟨zS, zS⟩ : kA), zS⟩ : kF)).bind fun a => (if (a.2 == 50) then some a.2 else ul a0 d a3 a0.lV)))))
def rD (g : List kY) : List kY → Nat → Option Bool
 | [], _ => some true
 | d :: c, i90 => ((mC g (i90 : Int)).bind fun a => (if (!(Dj d a)) then some false else (rD g c (i90 + 1))))
def wg (a0 a : List kY) : Option Bool :=
 (if ((a0.length : Int) != (a.length : Int)) then some false else rD a a0 0)
def zH (a0 a : lX) : Option Bool :=
 ((if (a0.State == a.State) then some (a0.ox == a.ox) else some false).bind fun g => ((if g then ((wh a0.lV a.lV).bind fun d => some d) else some false).bind fun h => ((if h then ((wg a0.lW a.lW).bind fun c => some c) else some false).bind fun i => some i)))
def Al  : Option Bool :=
 ((oK (⟨(⟨(⟨#[109, 101]⟩ : ByteArray), [], []⟩ : mg), (⟨#[121, 111, 117]⟩ : ByteArray), 3, [(⟨1, (⟨(⟨#[120]⟩ : ByteArray), (⟨#[121]⟩ : ByteArray)⟩ : kA), (⟨#[121, 111, 117]⟩ : ByteArray), (⟨zS, zS⟩ : kA), (⟨zS, zS⟩ : kA), zS⟩ : kB)], [], [], []⟩ : ur) (⟨1, 0, (⟨(⟨#[120]⟩ : ByteArray), (⟨#[121]⟩ : ByteArray)⟩ : kA), []⟩ : Formula) 1 0 true).bind fun a => ((oK (⟨(⟨(⟨#[109, 101]⟩ : ByteArray), [], []⟩ : mg), (⟨#[121, 111, 117]⟩ : ByteArray), 3, [(⟨1, (⟨(⟨#[120]⟩ : ByteArray), (⟨#[121]⟩ : ByteArray)⟩ : kA), (⟨#[121, 111, 117]⟩ : ByteArray), (⟨zS, zS⟩ : kA), (⟨zS, zS⟩ : kA), zS⟩ : kB)], [], [], []⟩ : ur) (⟨1, 0, (⟨(⟨#[120]⟩ : ByteArray), (⟨#[121]⟩ : ByteArray)⟩ : kA), []⟩ : Formula) 1 0 false).bind fun c => ((wP ([]) a).bind fun k => ((qo k.2).bind fun y => ((wx y (⟨0, 0, [], []⟩ : lX)).bind fun m => ((if ((((a).lV).length : Int) == 1) then some ((((a).lW).length : Int) == 1) else some false).bind fun n => ((if n then ((nv (⟨(a).State, (a).ox, (a).lV, (a).lW⟩ : lX) ([(⟨1, (⟨(⟨#[120]⟩ : ByteArray), (⟨#[121]⟩ : ByteArray)⟩ : kA), (⟨#[121, 111, 117]⟩ : ByteArray), (⟨zS, zS⟩ : kA), (⟨zS, zS⟩ : kA), zS⟩ : kB)]) (⟨1, 0, (⟨(⟨#[120]⟩ : ByteArray), (⟨#[121]⟩ : ByteArray)⟩ : kA), []⟩ : Formula) (⟨#[121, 111, 117]⟩ : ByteArray)).bind fun j => some (j == 0)) else some false).bind fun o => ((if o then ((nv (⟨(a).State, (a).ox, (a).lV, (a).lW⟩ : lX) ([]) (⟨1, 0, (⟨(⟨#[120]⟩ : ByteArray), (⟨#[121]⟩ : ByteArray)⟩ : kA), []⟩ : Formula) (⟨#[121, 111, 117]⟩ : ByteArray)).bind fun i => some (i == 50)) else some false).bind fun q => ((if q then some ((wi0 .i64 ((((c).lV).length : Int) + (((c).lW).length : Int))) == 0) else some false).bind fun s => ((if s then ((nv (⟨(c).State, (c).ox, (c).lV, (c).lW⟩ : lX) ([(⟨1, (⟨(⟨#[120]⟩ : ByteArray), (⟨#[121]⟩ : ByteArray)⟩ : kA), (⟨#[121, 111, 117]⟩ : ByteArray), (⟨zS, zS⟩ : kA), (⟨zS, zS⟩ : kA), zS⟩ : kB)]) (⟨1, 0, (⟨(⟨#[120]⟩ : ByteArray), (⟨#[121]⟩ : ByteArray)⟩ : kA), []⟩ : Formula) (⟨#[121, 111, 117]⟩ : ByteArray)).bind fun h => some (h == 44)) else some false).bind fun t => ((if t then some k.1 else some false).bind fun u => ((if u then some (m.1 == 0) else some false).bind fun v => ((if v then ((zH m.2 (⟨(a).State, (a).ox, (a).lV, (a).lW⟩ : lX)).bind fun g => some g) else some false).bind fun w => ((if w then ((nv (⟨0, 0, [], []⟩ : lX) ([]) (⟨1, 0, (⟨(⟨#[120]⟩ : ByteArray), (⟨#[121]⟩ : ByteArray)⟩ : kA), []⟩ : Formula) (⟨#[121, 111, 117]⟩ : ByteArray)).bind fun d => some (d == 43)) else some false).bind fun x => some x))))))))))))))
def tp (rec : Formula → Option (List kA)) : List Formula → (List kA) → Option (List kA)
 | [], a => some a
 | h :: c, a => ((rec h).bind fun g => ((mM 32 a g).bind fun d => (tp rec c d)))
def yP (rec : Formula → Option (List kA)) (a0 : Formula) : Option (List kA) :=
 (if (a0.Op == 1) then some [a0.kA] else tp rec a0.Kids ([]))
def uY : Nat → Formula → Option (List kA)
 | 0 => fun _ => none
 | n + 1 => yP (uY n)
def yg (a0 : Formula) : Option (List kA) :=
 ((uY lE a0).bind fun c => ((EY c).bind fun a => some a))
def vi (g : List kA) : List kA → Option Bool
 | [] => some true
 | d :: a => ((zY g d).bind fun c => (if (!c) then some false else (vi g a)))
def BM (a0 a : List kA) : Option Bool :=
 vi a a0
def wT (i : List kA) : List kA → Nat → Option Bool
 | [], _ => some false
 | a :: c, i189 => ((mC i (i189 : Int)).bind fun g => (if (!(kQ a g)) then ((mC i (i189 : Int)).bind fun h => ((rq a h).bind fun d => some d)) else (wT i c (i189 + 1))))
def A8 (a0 a : List kA) : Option Bool :=
 (if ((a0.length : Int) != (a.length : Int)) then some (decide ((a0.length : Int) < (a.length : Int))) else wT a a0 0)
def qP (c : List (List kA)) (d : List kA) : Nat → Int → Option Int
 | 0, _ => none
 | g + 1, a => ((if (decide (a > 0)) then ((mC c (wi0 .i64 (a - 1))).bind fun j => ((A8 d j).bind fun h => some h)) else some false).bind fun i => (if i then (qP c d g (wi0 .i64 (a - 1))) else some a))
def sV  : List (List kA) → (List (List kA)) → Option (List (List kA))
 | [], a => some a
 | d :: g, a => ((qP a d lE (a.length : Int)).bind fun c => ((nM (decide (0 ≤ c) && decide (c ≤ (a.length : Int)))).bind fun _ => ((mM 24 ([]) (a.take (Int.toNat c))).bind fun h => ((mM 24 h ([d])).bind fun i => ((nM (decide (0 ≤ c) && decide (c ≤ (a.length : Int)))).bind fun _ => ((mM 24 i (a.drop (Int.toNat c))).bind fun j => (sV g j)))))))
def zm (a0 : List (List kA)) : Option (List (List kA)) :=
 sV a0 ([])
def rI (a : List kA) : List kA → (List (List kA)) → Option (List (List kA))
 | [], c => some c
 | g :: d, c => ((if ((a.length : Int) == 0) then some true else ((mC a (wi0 .i64 ((a.length : Int) - 1))).bind fun q => ((rq q g).bind fun n => some n))).bind fun o => (if o then ((((mM 32 ([]) a).bind fun m => some (m, ([g]))) : Option ((List kA) × (List kA))).bind fun (h, i) => ((mM 32 h i).bind fun j => ((mM 24 c ([j])).bind fun k => (rI a d k)))) else (rI a d c)))
def tP (c : List kA) : List (List kA) → Bool → Option Bool
 | [], a => some a
 | h :: d, a => ((if a then some true else ((BM h c).bind fun g => some g)).bind fun i => (tP c d i))
def qf (a0 : Formula) (m : List kA) : List (List kA) → (List (List kA)) → (List (List kA)) → Option ((List (List kA)) × (List (List kA)))
 | [], a, c => some (a, c)
 | d :: g, a, c => ((tP d a false).bind fun k => (if k then (qf a0 m g a c) else ((rf lE a0 d).bind fun j => (if j then ((mM 24 a ([d])).bind fun h => (qf a0 m g h c)) else ((rI d m c).bind fun i => (qf a0 m g a i))))))
def tw (a0 : Formula) (j : List kA) : Nat → (List (List kA)) → (List (List kA)) → Option (List (List kA))
 | 0, _, _ => none
 | h + 1, a, c => (if (decide ((a.length : Int) > 0)) then ((qf a0 j a c ([])).bind fun (d, g) => (tw a0 j h g d)) else ((zm c).bind fun i => some i))
def Aw (a0 : Formula) : Option (List (List kA)) :=
 ((yg a0).bind fun a => tw a0 a lE ([[]]) ([]))
def xN (a0 : lX) (a3 : ByteArray) : List kA → Option Int
 | [] => some 0
 | g :: a => ((yl a0.lW).bind fun c => ((tY c g a3).bind fun d => (if (!d) then some 42 else (xN a0 a3 a))))
def Gx (a0 : lX) (h : List kB) (a2 : Formula) (a3 : ByteArray) : Option Int :=
 (if (a0.State != 1) then some 43 else ((xY a2).bind fun c => ((if (!c) then some true else ((rf lE a2 a0.lV).bind fun a => some (!a))).bind fun g => (if g then some 44 else ((Gz a0.lW h (⟨(⟨zS, zS⟩ : kA), zS⟩ : kF)).bind fun d => (if (d.2 == 50) then some 50 else xN a0 a3 a0.lV))))))
def vN  : List kA → Int → Option Int
 | [], a => some a
 | c :: d, a => (vN d (wi0 .i64 (a + (wi0 .i64 ((wi0 .i64 (5 + (c.kI.size : Int))) + (c.kU.size : Int))))))
def Ao (a0 : lX) : Option Int :=
 ((Cy a0.lW).bind fun a => vN a0.lV a)
def HR (a0 a : lX) : Option Bool :=
 ((if (a0.State == a.State) then some (a0.ox == a.ox) else some false).bind fun g => ((if g then ((DW a0.lV a.lV).bind fun d => some d) else some false).bind fun h => ((if h then ((Dx a0.lW a.lW).bind fun c => some c) else some false).bind fun i => some i)))
def yL (a0 : lc) (g : lX) : Option (Int ⊕ (lc × lX)) :=
 ((wU a0).bind fun c => match c with | .inl a => some (Sum.inl a) | .inr d => some (Sum.inr (d.2, d.1)))
def xk (a0 : List Int) (a : lX) : Option (Int × lX) :=
 ((pL a0).bind fun l => ((yL (⟨l, false⟩ : lc) a).bind fun s => some ((Jy (fun r => (r.1).b) s), (match s with | .inl _ => a | .inr r => r.2))))
structure xd where
 S : ur
 F : Formula
 O : lX
 mY : List kB
def qw (a0 : kA) (h : List (kA × (List (ByteArray × Bool)))) (a : List kB) (g : List (kA × (List kB))) (c : List (ByteArray × (List kB))) (d : List kF) (i : Int) : Option Bool :=
 ((rN h a g c d i a0 (⟨#[98, 111, 98]⟩ : ByteArray)).bind fun j => some j)
def sc (a0 : xd) : Option Bool :=
 (Al.bind fun G => (if (!G) then some false else ((some (zS, ([]), ([]), zS, 0, ([]), ([]), ([]), ([]), 0, 0, (⟨zS, zS⟩ : kA), ([]), 0, 0, ([]), ([])) : Option (ByteArray × (List nR) × (List uJ) × ByteArray × Int × (List kB) × (List kB) × (List kA) × (List kA) × Int × Int × kA × (List Formula) × Int × Int × (List kA) × (List kY))).bind fun (W, I, J, Y, Z, L, M, P, Q, a1, a6, a7, R, a8, aa, T, U) => ((Au a0.S).bind fun m => ((if (decide (m > 4000)) then some true else ((oa lE ([a0.F])).bind fun k => some (decide (k > 150)))).bind fun w => ((if w then some true else ((Ao a0.O).bind fun j => some (decide (j > 2000)))).bind fun y => ((if y then some true else ((oz a0.mY).bind fun i => some (decide (i > 1500)))).bind fun z => (if z then some true else ((((xY a0.F).bind fun q => ((if q then ((yg a0.F).bind fun h => some (decide ((h.length : Int) ≤ 8))) else some false).bind fun A => ((if A then ((Aq a0.S).bind fun d => ((rf lE a0.F d).bind fun g => some g)) else some false).bind fun D => ((if D then ((Aw a0.F).bind fun v => some (decide ((v.length : Int) ≤ 128))) else some false).bind fun E => (if E then ((oK a0.S a0.F 1 0 true).bind fun t => ((nv t a0.S.lL a0.F a0.S.od).bind fun u => (if (u != 0) then some (Sum.inl false) else some (Sum.inr ())))) else some (Sum.inr ())))))) : Option (Bool ⊕ Unit)).bind fun s => match s with | .inl c => some c | .inr _ => ((nv a0.O a0.mY a0.F (⟨#[98, 111, 98]⟩ : ByteArray)).bind fun n => (if (n != 0) then some true else ((vp a0.mY).bind fun a => ((sb a0.F (fun (x : kA) => qw x a.1 a.2.1 a.2.2.1 a.2.2.2.1 a.2.2.2.2.1 a.2.2.2.2.2)).bind fun o => some o)))))))))))))
end
end Go.Proofs.YtbnbdigcbldfhaaGreat
