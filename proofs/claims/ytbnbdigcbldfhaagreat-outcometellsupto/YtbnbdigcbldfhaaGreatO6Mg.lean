/- a part of a proof of OutcomeTells -/
import Derived.Test.YtbnbdigcbldfhaaGreatRtSg
import Derived.Laws.IdiomStrings
import Derived.Laws.MakeOwn
import Derived.Recover
import Derived.LaidEqlPtr
import Derived.Shelf.SlSortCmp.NoneTotal
import Derived.Shelf.SortM.Plain
import Derived.Shelf.SortM.SortNone
import Derived.Shelf.SlIter.Sorted
import Derived.Shelf.SlIter.Nil
import Derived.Test.YtbnbdigcbldfhaaGreatProg
import Derived.KernelRfl
set_option linter.all false
namespace Go.Proofs.YtbnbdigcbldfhaaGreat
open Go.IntKind renaming wrap → wi0
open Go.RowKit
section
variable {α β γ : Type}
inductive qI (Q : α → β → Prop) : List α → List β → Prop
 | nil : qI Q [] []
 | cons {a : α} {b : β} {l : List α} {m : List β} : Q a b → qI Q l m → qI Q (a :: l) (b :: m)
namespace qI
variable {Q Q' : α → β → Prop}
theorem length {l : List α} {m : List β} (h : qI Q l m) : l.length = m.length := by
 induction h with
 | nil => rfl
 | cons _ _ ih => simp [ih]
theorem imp {l : List α} {m : List β} (h : qI Q l m) (c : ∀ a b, Q a b → Q' a b) : qI Q' l m := by
 induction h with
 | nil => exact .nil
 | cons h1 _ ih => exact .cons (c _ _ h1) ih
theorem get {l : List α} {m : List β} (h : qI Q l m) : ∀ {i : Nat} {b : β}, m[i]? = some b → ∃ a, l[i]? = some a ∧ Q a b := by
 induction h with
 | nil => intro i b c; simp at c
 | cons h1 _ ih =>
  intro i b c
  cases i with
  | zero => simp at c; subst c; exact ⟨_, rfl, h1⟩
  | succ i => simpa using ih (by simpa using c)
theorem append {l a : List α} {m c : List β} (h : qI Q l m) (d : qI Q a c) : qI Q (l ++ a) (m ++ c) := by
 induction h with
 | nil => exact d
 | cons h1 _ ih => exact .cons h1 ih
theorem set {l : List α} {m : List β} (h : qI Q l m) {a : α} {b : β} (d : Q a b) : ∀ i : Nat, qI Q (l.set i a) (m.set i b) := by
 induction h with
 | nil => intro i; exact .nil
 | cons h1 c ih =>
  intro i
  cases i with
  | zero => exact .cons d c
  | succ i => exact .cons h1 (ih i)
theorem take {l : List α} {m : List β} (h : qI Q l m) : ∀ i : Nat, qI Q (l.take i) (m.take i) := by
 induction h with
 | nil => intro i; simp; exact .nil
 | cons h1 _ ih =>
  intro i
  cases i with
  | zero => exact .nil
  | succ i => exact .cons h1 (ih i)
theorem drop {l : List α} {m : List β} (h : qI Q l m) : ∀ i : Nat, qI Q (l.drop i) (m.drop i) := by
 induction h with
 | nil => intro i; simp; exact .nil
 | cons h1 a ih =>
  intro i
  cases i with
  | zero => exact .cons h1 a
  | succ i => exact ih i
end qI
theorem EQ {P : Nat → β → α → Prop} : ∀ {m : List β} (o : Nat), (∀ (i : Nat) (b : β), m[i]? = some b → ∃ a, P (o + i) b a) → ∃ l : List α, l.length = m.length ∧ ∀ (i : Nat) (b : β), m[i]? = some b → ∃ a, l[i]? = some a ∧ P (o + i) b a
 | [], _, _ => ⟨[], rfl, fun i b h => by simp at h⟩
 | b :: m, o, h => by
  obtain ⟨a, ha⟩ := h 0 b rfl
  obtain ⟨l, h1, g⟩ := EQ (m := m) (o + 1) (fun i b j => by
   obtain ⟨a, ha⟩ := h (i + 1) b (by simpa using j)
   exact ⟨a, by rw [show o + 1 + i = o + (i + 1) by omega]; exact ha⟩)
  refine ⟨a :: l, by simp [h1], fun i c d => ?_⟩
  cases i with
  | zero => simp at d; subst d; exact ⟨a, rfl, ha⟩
  | succ i =>
   obtain ⟨x, k, hp⟩ := g i c (by simpa using d)
   exact ⟨x, by simpa using k, by rw [show o + (i + 1) = o + 1 + i by omega]; exact hp⟩
theorem qI.SG {Q : α → β → Prop} : ∀ {l : List α} {m : List β}, l.length = m.length → (∀ (i : Nat) (a : α) (b : β), l[i]? = some a → m[i]? = some b → Q a b) → qI Q l m
 | [], [], _, _ => .nil
 | [], _ :: _, h, _ => by cases h
 | _ :: _, [], h, _ => by cases h
 | a :: l, b :: m, h, c => .cons (c 0 a b rfl rfl) (qI.SG (by simpa using h) (fun i x y d g => c (i + 1) x y (by simpa using d) (by simpa using g)))
end
structure Deep {β : Type} (R : rA β) (k : Nat) : Prop where
 mono : Jk R
 len : ∀ {μ ys x}, R μ ys x → ys.length = k
 one : ∀ {μ ys x}, R μ ys x → ∀ u ∈ ys, u.oneCell' = true
abbrev tU (k : Nat) := {ys : List Value // ys.length = k ∧ ∀ u ∈ ys, u.oneCell' = true}
def wW {k : Nat} (c : tU k) : List Value := c.1
theorem Dn {k : Nat} (x : tU k) : (wW x).length = k := x.2.1
theorem YN {k : Nat} (x : tU k) : ∀ u ∈ wW x, u.oneCell' = true := x.2.2
theorem Sl.CH {α : Type} {R : rA α} {k : Nat} {μ : lm} {v : Value} {l : List α} (h : Sl R k μ v l) : v.oneCell' = true := by
 obtain ⟨A, c, rfl, _⟩ := h; rfl
section
variable {β : Type} {Rl : rA β} {k : Nat} {μ μ' : lm} {v : Value} {l : List β}
def Deep.cell (a : Deep Rl k) {ys : List Value} {x : β} (h : Rl μ ys x) : tU k := ⟨ys, a.len h, a.one h⟩
theorem Sl.raw (D : Deep Rl k) (h : Sl Rl k μ v l) : ∃ cl : List (tU k), Sl (Pl wW) k μ v cl ∧ qI (fun c x => Rl μ c.1 x) cl l := by
 obtain ⟨A, c, rfl, h1, t, w⟩ := h
 cases l with
 | nil => exact ⟨[], ⟨A, c, rfl, h1, t, fun h => absurd h (by simp)⟩, .nil⟩
 | cons x0 l =>
  obtain ⟨b, off, cs, T, fr, rfl, G, z⟩ := w (by simp)
  obtain ⟨cl, o, s⟩ := EQ (P := fun i x (c : tU k) => Rl μ c.1 x ∧ ∀ j y, c.1[j]? = some y → cs[off + i * k + j]? = some y) (m := x0 :: l) 0 (fun i x q => by
   obtain ⟨ys, _, d, g⟩ := z i x q
   exact ⟨D.cell d, d, by rw [df]; exact g⟩)
  refine ⟨cl, ⟨_, c, by rw [o], by omega, t, fun _ => ⟨b, off, cs, T, fr, rfl, G, fun i c n => ?_⟩⟩, qI.SG o (fun i c x n q => ?_)⟩
  ·have I : i < (x0 :: l).length := by rw [← o]; exact (bA.1 n).1
   obtain ⟨u, a, _, g⟩ := s i _ (cj I)
   rw [n] at a; cases a
   exact ⟨c.1, c.2.1, rfl, by rw [df] at g; exact g⟩
  ·obtain ⟨u, a, d, _⟩ := s i x q
   rw [n] at a; cases a
   exact d
theorem Sl.RK {cl : List (tU k)} (h : Sl (Pl wW) k μ v cl) (u : kY μ μ') (ha : qI (fun c x => Rl μ' c.1 x) cl l) : Sl Rl k μ' v l := by
 obtain ⟨A, c, rfl, h1, m, n⟩ := h
 have a := ha.length
 refine ⟨A, c, by rw [a], by omega, m, fun y => ?_⟩
 obtain ⟨b, off, cs, T, fr, rfl, q, o⟩ := n (by omega)
 refine ⟨b, off, cs, T, fr, rfl, u _ _ q, fun i x w => ?_⟩
 obtain ⟨c, s, t⟩ := ha.get w
 obtain ⟨ys, d, g, j⟩ := o i c s
 cases g
 exact ⟨wW c, d, t, j⟩
def Fw (Rl : rA β) (k : Nat) (μ : lm) (W : World) (v : Value) (l : List β) : Prop := ∃ cl : List (tU k), Sl (Pl wW) k (hp W) v cl ∧ qI (fun c x => Rl μ c.1 x) cl l
theorem Fw.sl (c : Deep Rl k) {W : World} (h : Sl Rl k μ v l) (d : kY μ (hp W)) : Fw Rl k μ W v l := by
 obtain ⟨cl, h1, a⟩ := h.raw c
 exact ⟨cl, h1.mono (Pl.mono _) d, a⟩
theorem Sl.Tm {b m : Nat} {cl : List (tU k)} {cs : Array Value} {e : TypeId} (hm : cl.length = m) (a : m ≤ maxLen) (d : cs.toList = (cl.map wW).flatten) (c : μ b = some (.cells cs e (0, 0))) : Sl (Pl wW) k μ (.slice (some ⟨b, 0, none⟩) m m) cl := by
 subst hm
 refine ⟨_, _, rfl, bB _, a, fun _ => ⟨b, 0, _, _, _, rfl, c, fun i x g => ⟨wW x, Dn x, rfl, fun j y h => ?_⟩⟩⟩
 have := yU Dn cl i x g j y h
 rw [← d] at this
 simpa using this
inductive FH (Rl : rA β) (k : Nat) (μ : lm) : List Value → List β → Prop
 | nil : FH Rl k μ [] []
 | cons {ys zs : List Value} {x : β} {l : List β} : Rl μ ys x → FH Rl k μ zs l → FH Rl k μ (ys ++ zs) (x :: l)
theorem FH.cells (d : Deep Rl k) {ys : List Value} (h : FH Rl k μ ys l) : ∃ cl : List (tU k), (cl.map wW).flatten = ys ∧ qI (fun c x => Rl μ c.1 x) cl l := by
 induction h with
 | nil => exact ⟨[], rfl, .nil⟩
 | cons h1 _ ih =>
  obtain ⟨cl, e, a⟩ := ih
  exact ⟨d.cell h1 :: cl, by rw [bD, dt, e]; rfl, .cons h1 a⟩
theorem Fw.lit (d : Deep Rl k) {W : World} {b m : Nat} {ys : List Value} {e : TypeId} (h : FH Rl k μ ys l) (hm : l.length = m) (g : m ≤ maxLen) (i : W.heap[b]? = some (.cells ys.toArray e (0, 0))) : Fw Rl k μ W (.slice (some ⟨b, 0, none⟩) m m) l := by
 obtain ⟨cl, c, a⟩ := h.cells d
 exact ⟨cl, Sl.Tm (by rw [a.length]; exact hm) g c.symm i, a⟩
theorem Sl.imp {R R' : rA β} (h : Sl R k μ v l) (q : ∀ ys x, R μ ys x → R' μ ys x) : Sl R' k μ v l := by
 obtain ⟨A, c, rfl, h1, a, d⟩ := h
 refine ⟨A, c, rfl, h1, a, fun s => ?_⟩
 obtain ⟨b, off, cs, T, fr, rfl, o, g⟩ := d s
 exact ⟨b, off, cs, T, fr, rfl, o, fun i x t => let ⟨ys, j, m, n⟩ := g i x t; ⟨ys, j, q _ _ m, n⟩⟩
theorem HG : ∀ (l : List Nat) (n : Nat), n ∈ l → n ≤ l.foldr max 0
 | [], n, h => by cases h
 | a :: l, n, h => by
  rcases aR.1 h with rfl | h
  ·exact Nat.le_max_left _ _
  ·exact dj (HG l n h) (Nat.le_max_right _ _)
theorem Sl.Yg {R : rA β} {a : Nat → rA β} (h : Sl R k μ v l) (D : ∀ ys x, R μ ys x → ∃ n, a n μ ys x) (up : ∀ n m ys x, n ≤ m → a n μ ys x → a m μ ys x) : ∃ n, Sl (a n) k μ v l := by
 obtain ⟨A, c, rfl, h1, s, w⟩ := h
 by_cases t : 0 < l.length
 ·obtain ⟨b, off, cs, T, fr, rfl, G, z⟩ := w t
  obtain ⟨J, L, u⟩ := EQ (P := fun i x (p : Nat × List Value) => p.2.length = k ∧ a p.1 μ p.2 x ∧ ∀ j y, p.2[j]? = some y → cs[off + i * k + j]? = some y) (m := l) 0 (fun i x q => by
   obtain ⟨ys, g, o, d⟩ := z i x q
   obtain ⟨n, I⟩ := D _ _ o
   exact ⟨(n, ys), g, I, by rw [df]; exact d⟩)
  refine ⟨(J.map (·.1)).foldr max 0, _, c, rfl, h1, s, fun _ => ⟨b, off, cs, T, fr, rfl, G, fun i x q => ?_⟩⟩
  obtain ⟨p, hp, g, o, d⟩ := u i x q
  exact ⟨p.2, g, up _ _ _ _ (HG _ _ (bH.2 ⟨p, iI hp, rfl⟩)) o, by rw [df] at d; exact d⟩
 ·exact ⟨0, A, c, rfl, h1, s, fun h => absurd h t⟩
theorem vR {α : Type} {enc : α → List Value} {k : Nat} : Deep (vP enc k) 1 where
 mono := vP.mono _ _
 len := by rintro _ _ _ ⟨v, rfl, h⟩; rfl
 one := by rintro _ _ _ ⟨v, rfl, h⟩ u hu; rw [aO] at hu; subst hu; exact h.CH
def nm (e : TypeId) (Rl : rA β) (k : Nat) (μ : lm) (v : Value) (l : List β) (B : List (Nat × Obj)) : Prop := ∃ cl : List (tU k), kU e wW k v cl B ∧ qI (fun c x => Rl μ c.1 x) cl l
variable {e : TypeId} {B : List (Nat × Obj)}
theorem nm.mono (c : Deep Rl k) (h : nm e Rl k μ v l B) (d : kY μ μ') : nm e Rl k μ' v l B := by
 obtain ⟨cl, h1, a⟩ := h
 exact ⟨cl, h1, a.imp (fun _ _ h => c.mono _ _ _ _ d h)⟩
theorem nm.nil (e : TypeId) (Rl : rA β) (k : Nat) (μ : lm) : nm e Rl k μ (.slice none 0 0) [] [] := ⟨[], kU.nil _ _ _, .nil⟩
theorem nm.lit (d : Deep Rl k) {b m : Nat} {ys : List Value} (h : FH Rl k μ ys l) (hm : l.length = m) (g : m ≤ maxLen) (i : ys.length = m * k) : nm e Rl k μ (.slice (some ⟨b, 0, none⟩) m m) l [(b, .cells ys.toArray e (0, 0))] := by
 obtain ⟨cl, c, a⟩ := h.cells d
 exact ⟨cl, kU.lit (by rw [a.length]; exact hm) g c.symm (by simpa using i), a⟩
theorem nm.form (h : nm e Rl k μ v l B) : ∃ A c, v = .slice A l.length c := by
 obtain ⟨cl, h1, a⟩ := h
 rw [← a.length]; exact h1.form
theorem nm.len (h : nm e Rl k μ v l B) : l.length ≤ 9223372036854775807 := by
 obtain ⟨cl, h1, a⟩ := h
 rw [← a.length]; exact h1.len
theorem nm.nd (h : nm e Rl k μ v l B) : (B.map (·.1)).Nodup := let ⟨_, h1, _⟩ := h; h1.nd
theorem nm.isNil {n c : Nat} (h : nm e Rl k μ (.slice none n c) l B) : l = [] := by
 obtain ⟨cl, h1, a⟩ := h
 have := a.length
 rw [h1.isNil] at this
 exact bR this.symm
theorem nm.sl (h : nm e Rl k μ v l B) (c : Deep Rl k) (d : kY μ μ') (hm : ∀ b o, (b, o) ∈ B → μ' b = some o) : Sl Rl k μ' v l := by
 obtain ⟨cl, h1, a⟩ := h
 exact Sl.RK (h1.sl Dn hm) (kY.refl _) (a.imp (fun _ _ h => c.mono _ _ _ _ d h))
end
section
variable {β : Type} {Rl : rA β} {k : Nat} {μ : lm} {v : Value} {l : List β} {e : TypeId} {B : List (Nat × Obj)}
variable {dd : Bool} {F : Nat → Prop} {w W : World} {L : List (Nat × Obj)}
theorem nm.Sd (h : nm e Rl k μ v l B) (c : Deep Rl k) (a : ST dd F w W μ L) (d : ∀ p, p ∈ B → p ∈ L) : Sl Rl k (hp W) v l := h.sl c a.kJ (fun _ _ g => a.at_ (d _ g))
theorem Fw.row (h : nm e Rl k μ v l B) (a : ST dd F w W μ L) (d : ∀ p, p ∈ B → p ∈ L) : Fw Rl k μ W v l := let ⟨cl, h1, c⟩ := h; ⟨cl, h1.Sd Dn a d, c⟩
theorem nm.RA (h : nm e Rl k μ v l B) (a : ST dd ll w W μ L) (c : ∀ p, p ∈ B → p ∈ L) : Fr w.heap.size v := let ⟨_, h1, _⟩ := h; h1.RA a c
theorem ST.Qw {Y : List (Nat × Obj)} (g : Deep Rl k) (a : ST dd F w W μ (B ++ Y)) (h : nm e Rl k μ v l B) : ∃ μ', ST dd F w W μ' Y ∧ kY μ μ' ∧ Lo F w μ μ' ∧ Sl Rl k μ' v l := by
 obtain ⟨cl, h1, d⟩ := h
 obtain ⟨μ', c, a2, a4, a3⟩ := ST.A4 a h1 Dn
 exact ⟨μ', c, a2, a4, Sl.RK a3 (kY.refl _) (d.imp (fun _ _ h => g.mono _ _ _ _ a2 h))⟩
variable {P : Program} {E : Nat → Value} {d : Option Nat} {ty : TypeId} {pos : String} {af : Array Edge} {g : Option (Nat × Bool)}
theorem su {t e' : TypeId} {x a : Operand} {z : IntKind} {i : Int} {x0 : β} {A : List Value → Prop} (q : ∀ {ys}, Rl μ ys x0 → A ys) (u : P.underlying t = some (.slice e')) (he : ∀ w, (sizeOf e').run P w = .ok k w) (y : kG E x = v) (n : kG E a = .int z i) (s : Sl Rl k μ v l) (c : 0 ≤ i) (o : l[i.toNat]? = some x0) :
  ∃ p, (∃ ys, A ys ∧ At μ p ys) ∧ ∀ W, mw P E ⟨d, .indexAddr t x a, ty, pos, af, g⟩ W p W := by
 obtain ⟨p, ys, _, h, j, m⟩ := KA (d := d) (ty := ty) (pos := pos) (af := af) (g := g) u he y n s c o
 exact ⟨p, ⟨ys, q h, j⟩, m⟩
theorem Ce {x : Operand} {t e' : TypeId} (a : P.underlying t = some (.slice e')) (i : kG E x = v) (h : nm e Rl k μ v l B) : mw P E ⟨d, .call ⟨.builtin .len, #[x], #[t]⟩, ty, pos, af, g⟩ W (.int .i64 l.length) W := by
 obtain ⟨A, c, rfl⟩ := h.form
 exact BG a i
theorem E1 {t e' : TypeId} {x m : Operand} {I : IntKind} {i : Int} {x0 : β} {A : List Value → Prop} (y : ∀ {ys}, Rl μ ys x0 → A ys) (D : P.underlying t = some (.slice e')) (he : ∀ w, (sizeOf e').run P w = .ok k w) (G : kG E x = v) (s : kG E m = .int I i) (h : nm e Rl k μ v l B) (n : 0 ≤ i) (u : l[i.toNat]? = some x0) :
  ∃ p, (∃ ys, A ys ∧ At (Cu B) p ys ∧ E2 B k p i.toNat) ∧ ∀ W, mw P E ⟨d, .indexAddr t x m, ty, pos, af, g⟩ W p W := by
 obtain ⟨cl, h1, o⟩ := h
 obtain ⟨c, j, z⟩ := o.get u
 obtain ⟨p, a, q⟩ := mC (d := d) (ty := ty) (pos := pos) (af := af) (g := g) D he G s h1 n j
 exact ⟨p, ⟨c.1, y z, a.at h1 Dn j, a⟩, q⟩
theorem TC {α g : Type} {a : Nat} {l m r : List α} {c d : List g} (h : mJ a l m = some r) (h1 : c.length = l.length) (i : d.length = m.length) : mJ a c d = some (c ++ d) ∧ r = l ++ m := by
 unfold mJ at h ⊢
 rw [h1, i]
 split at h
 ·rename_i j; cases h; rw [aM j]; exact ⟨rfl, rfl⟩
 ·cases h
theorem AL {K : Value → World → Prop} {t : TypeId} {a : Nat} {z vs : Value} {m r : List β} {Y : List (Nat × Obj)} {x y : Operand} {i : TypeInfo} (hD : Deep Rl k) (j : ST dd F w W μ (B ++ Y)) (q : 0 < k) (Q : P.underlying t = some (.slice e)) (M : P.info? e = some i) (U : i.zero = some z) (u : z.cells.size = k) (s : i.size = k) (o : i.bytes = a) (R : kG E x = v) (T : kG E y = vs) (J : nm e Rl k μ v l B) (O : Fw Rl k μ W vs m) (L : mJ a l m = some r) (h : ∀ W' c R', ST dd F w W' μ (R' ++ Y) → nm e Rl k μ c r R' → K c W') : nH P E ⟨d, .call ⟨.builtin .append, #[x, y], #[t, t]⟩, ty, pos, af, g⟩ W K := by
 obtain ⟨cl, h1, A⟩ := J
 obtain ⟨Z, I, D⟩ := O
 obtain ⟨n, rfl⟩ := TC L A.length D.length
 exact my j Dn q YN Q M U u s o R T h1 I n (fun W' c R' G a2 => h W' c R' G ⟨_, a2, A.append D⟩)
end
end Go.Proofs.YtbnbdigcbldfhaaGreat
namespace Go.Proofs.YtbnbdigcbldfhaaGreat
open Go.IntKind renaming wrap → wi0
open Go.RowKit
def pg (dd : Bool) (P : Program) (f : FuncId) (args : List Value) (w : World) (μ0 : lm) (L0 : List (Nat × Obj)) (K : Value → List (Nat × Obj) → lm → Prop) : Prop :=
 Calls P f args.toArray w fun e a => ∃ v L1 μ1, e = .returned v ∧ sG dd L0 L1 w a ∧ kY μ0 μ1 ∧ Lo (keys L0) w μ0 μ1 ∧ kY μ1 (sH a L1) ∧ K v L1 μ1
theorem pg.mn {dd : Bool} {P : Program} {f : FuncId} {args : List Value} {w : World} {μ0 : lm} {L0 : List (Nat × Obj)} {K : Value → List (Nat × Obj) → lm → Prop} (h : pg true P f args w μ0 L0 K) : pg dd P f args w μ0 L0 K :=
 cH h fun _ _ ⟨v, L1, μ1, h1, a, c⟩ => ⟨v, L1, μ1, h1, a.mn, c⟩
section
variable {dd : Bool} {F : Nat → Prop} {w W W' : World} {μ μ1 : lm} {L L0 L1 L2 : List (Nat × Obj)}
theorem ST.T8 (h : ST dd F w W μ (L0 ++ L)) (g : sG dd L0 L1 W W') (i : Lo (keys L0) W μ μ1) (d : kY μ1 (sH W' L1)) : ST dd F w W' μ1 (L1 ++ L) := by
 have h1 := h.back g
 refine ⟨h1.os, h1.tape, h1.output, h1.drawn, h1.size, h1.na, fun b o hm => ?_, fun b o a => ?_, h1.nd⟩
 ·have := d b o hm
  unfold sH at this
  split at this
  ·cases this
  ·exact this
 ·obtain ⟨j, m, k⟩ := h1.box b o a
  refine ⟨j, ?_, k⟩
  rcases aS.1 a with a | a
  ·cases hm : μ1 b with
   | none => rfl
   | some x =>
    have := d b x hm
    unfold sH at this
    rw [aM ⟨o, a⟩] at this
    cases this
  ·have c := h.box b o (cD _ a)
   rw [i b (oM c.1) (HO h.nd a)]
   exact c.2.1
variable {P : Program} {E : Nat → Value} {d : Option Nat} {ty : TypeId} {pos : String} {af : Array Edge} {g : Option (Nat × Bool)}
theorem Oi {K : Value → World → Prop} {K' : Value → List (Nat × Obj) → lm → Prop} {f : FuncId} {fv : Operand} {ax : Array Operand} {ats : Array TypeId} {caps : Array Value} {args : List Value} (L0 L2 : List (Nat × Obj)) (a : ST dd F w W μ L) (c : L.Perm (L0 ++ L2)) (y : kG E fv = .func (.func f) #[] caps) (he : ∀ args w, (callFunc f args).run P w = .ok (.enter f args) w) (ha : ax.map (kG E) ++ (#[] : Array Value) = args.toArray) (x : EU L0 W → (L0.map (·.1)).Nodup → kY μ (sH W L0) → (∀ b o, (b, o) ∈ L2 → sH W L0 b = some o) → pg dd P f (args ++ caps.toList) W μ L0 K') (h : ∀ W' v μ' L1, ST dd F w W' μ' (L1 ++ L2) → kY μ μ' → Lo F w μ μ' → K' v L1 μ' → K v W') : nH P E ⟨d, .call ⟨.value fv, ax, ats⟩, ty, pos, af, g⟩ W K := by
 have i : ax.map (kG E) = args.toArray := by simpa using ha
 refine HM (args := (args ++ caps.toList).toArray) y he (by rw [i]; simp) (cH (x (a.held c) (a.Tj c) (a.TM c) (a.KE c)) (fun _ W' ⟨v, L1, μ1, h1, k, m, j, n, s⟩ => ⟨v, h1, h W' v μ1 L1 ((a.perm c).T8 k j n) m (fun b u t => j b (cO u a.size) (fun ⟨o, z⟩ => by
  rcases ((a.perm c).box b o (bI _ z)).2.2 with q | q
  ·omega
  ·exact t q)) s⟩))
end
section
variable {P : Program} {E : Nat → Value} {W : World} {d : Option Nat} {ty : TypeId} {pos : String} {af : Array Edge} {g : Option (Nat × Bool)}
 {dd : Bool} {F : Nat → Prop} {w : World} {μ : lm} {L : List (Nat × Obj)}
def FA {α : Type} (a : Nat) (z : α) (n : Int) : Option (List α) := if 0 ≤ n ∧ (a : Int) * n ≤ 140737488355328 ∧ n ≤ (maxLen : Int) then some (List.replicate n.toNat z) else none
theorem KD {α : Type} {enc : α → List Value} {k : Nat} (hk : ∀ x, (enc x).length = k) (a : 0 < k) (z : α) (n : Nat) : (madeCells (enc z).toArray (n * k)).toList = ((List.replicate n z).map enc).flatten := by
 apply List.ext_getElem
 ·rw [pJ hk, cU, size_madeCells]; simp
 ·intro i h1 h
  rw [cU, size_madeCells] at h1
  have j : i / k < n := by rw [ie a]; exact h1
  have d : i % k < (enc z).length := by rw [hk]; exact Nat.mod_lt _ a
  have c := yU hk (List.replicate n z) (i / k) z (by rw [List.getElem?_replicate, aM j]) (i % k) _ (cj d)
  rw [show i / k * k + i % k = i by rw [Nat.mul_comm]; exact Nat.div_add_mod i k] at c
  rw [cj h] at c
  have g := kj c
  rw [g]
  simp only [madeCells, Array.getElem_toList, Array.getElem_map, Array.getElem_range, cM, hk]
  rw [gK _ _ (by simpa using d)]
  simp
theorem Oy {K : Value → World → Prop} {α : Type} {e t : TypeId} {enc : α → List Value} {k a : Nat} {c : Value} {n : Int} {m : IntKind} {z : α} {r : List α} {x y : Operand} {i : TypeInfo} (o : ST dd F w W μ L) (hk : ∀ x, (enc x).length = k) (u : 0 < k) (Q : P.underlying t = some (.slice e)) (M : P.info? e = some i) (U : i.zero = some c) (v : i.size = k) (s : i.bytes = a) (J : c.cells = (enc z).toArray) (R : kG E x = .int m n) (T : kG E y = .int m n) (j : FA a z n = some r) (h : ∀ W' A R', ST dd F w W' μ (R' ++ L) → kU e enc k A r R' → K A W') : nH P E ⟨d, .makeSlice t x y, ty, pos, af, g⟩ W K := by
 unfold FA at j
 split at j
 case isFalse => cases j
 rename_i q
 cases j
 obtain ⟨D, h1, G⟩ := q
 subst v; subst s
 have I : n.toNat ≤ maxLen := by omega
 have O := run_make (P := P) W t e i c Q M U m m n n D (Int.le_refl _) (by omega) (by simp only [maxLen] at G; omega)
 refine .inl ⟨.slice (some ⟨W.heap.size, 0, none⟩) n.toNat n.toNat, W.alloc (.cells (madeCells c.cells (n.toNat * i.size)) e), ?_, h _ _ [(W.heap.size, .cells (madeCells c.cells (n.toNat * i.size)) e)] (o.alloc _) ?_⟩
 ·show (do pure (.value (← Instr.makeSlice t (kG E x) (kG E y))) : Sem Next).run P W = _
  rw [R, T]
  simp only [cd, O, bK, da]
 ·exact kU.lit (by rw [ig]) I (by rw [J]; exact KD hk u z _) (by rw [size_madeCells])
end
section
variable {P : Program} {E : Nat → Value} {W : World} {d : Option Nat} {ty : TypeId} {pos : String} {af : Array Edge} {g : Option (Nat × Bool)}
theorem Xy {op : BinOp} {tx tv : TypeId} {x y : Operand} {k : IntKind} {a b : Int} {v : Value} (i : kG E x = .int k a) (j : kG E y = .int k b) (h : (match op with | .and => some (BitVec.ofInt k.bits a &&& BitVec.ofInt k.bits b) | .or => some (BitVec.ofInt k.bits a ||| BitVec.ofInt k.bits b) | .xor => some (BitVec.ofInt k.bits a ^^^ BitVec.ofInt k.bits b) | _ => none).map (fun (c : BitVec k.bits) => Value.int k (k.wrap c.toNat)) = some v) :
  mw P E ⟨d, .binOp op tx x y tv, ty, pos, af, g⟩ W v W := by
 show (do let r ← (do eqGuard op tx x y (kG E x) (kG E y); binOp op tx (kG E x) (kG E y)); pure (.value r) : Sem Next).run P W = _
 rw [i, j]
 cases op <;> simp at h <;> subst h <;> simp [eqGuard, binOp, Op.intBits]
theorem P7 {tx tv : TypeId} {x y : Operand} {k k' : IntKind} {a b : Int} (c : kG E x = .int k a) (h : kG E y = .int k' b) (i : 0 ≤ b) :
  mw P E ⟨d, .binOp .shl tx x y tv, ty, pos, af, g⟩ W (.int k (k.wrap (a * 2 ^ min b.toNat k.bits))) W := by
 show (do let r ← (do eqGuard .shl tx x y (kG E x) (kG E y); binOp .shl tx (kG E x) (kG E y)); pure (.value r) : Sem Next).run P W = _
 rw [c, h]
 simp [eqGuard, binOp, Op.shift, show ¬ b < 0 by omega]
end
theorem uj.CH {κ γ : Type} {kenc : κ → Value} {Q : Value → γ → List (Nat × Obj) → Prop} {μ : lm} {v : Value} {l : List (κ × γ)} (h : uj kenc Q μ v l) : v.oneCell' = true := by
 obtain ⟨a, R, h, _⟩ := h
 obtain ⟨m, rfl⟩ := h.form
 rfl
theorem xk.CH {κ β : Type} {kenc : κ → Value} {vf : β → Value} {μ : lm} {v : Value} {l : List (κ × β)} (h : xk kenc vf μ v l) : v.oneCell' = true := by
 obtain ⟨m, rfl⟩ := h.form
 rfl
section
variable {dd : Bool}
def Om {α : Type} (R : rA α) : lm → List Value → α → Prop := fun μ vs x => ∃ ys, vs = [.agg ys.toArray] ∧ R μ ys x
theorem Om.mk {α : Type} {R : rA α} {k : Nat} {μ μ' : lm} {ys : List Value} {x : α} (a : Deep R k) (h : R μ ys x) (c : kY μ μ') : Om R μ' [.agg ys.toArray] x := ⟨ys, rfl, a.mono _ _ _ _ c h⟩
def Le {α β : Type} (P : Program) (fv : Value) (μ : lm) (a : lm → List Value → α → Prop) (c : β → Value) (pm : α → Option β) : Prop :=
 ∃ f first caps, fv = .func (.func f) first caps ∧ (∀ args w, (callFunc f args).run P w = .ok (.enter f args) w) ∧ ∀ W x vs r, kY μ (hp W) → a (hp W) vs x → pm x = some r → la false P f (first.toList ++ (vs ++ caps.toList)) W (c r)
theorem Le.form {α β : Type} {P : Program} {fv : Value} {μ : lm} {c : lm → List Value → α → Prop} {d : β → Value} {pm : α → Option β} (h : Le P fv μ c d pm) : ∃ f a b, fv = .func f a b := let ⟨f, a, b, h, _⟩ := h; ⟨_, a, b, h⟩
end
section
variable {P : Program} {W : World} {E : Nat → Value} {d : Option Nat} {ty : TypeId} {pos : String} {af : Array Edge} {g : Option (Nat × Bool)} {F : Nat → Prop} {w : World} {μ μ0 : lm} {L : List (Nat × Obj)}
theorem Le.mono {α β : Type} {fv : Value} {a : lm → List Value → α → Prop} {c : β → Value} {pm : α → Option β} (h : Le P fv μ a c pm) (i : kY μ μ0) : Le P fv μ0 a c pm := by
 obtain ⟨f, first, caps, h1, d, g⟩ := h
 exact ⟨f, first, caps, h1, d, fun W x vs r h => g W x vs r (i.trans h)⟩
theorem XZ {α β : Type} {K : Value → World → Prop} {fv : Value} {j : lm → List Value → α → Prop} {k : β → Value} {pm : α → Option β} {c : Operand} {ax : Array Operand} {ats : Array TypeId} (x : α) {vs : List Value} {r : β} (a : ST false F w W μ L) (t : Le P fv μ0 j k pm) (v : kY μ0 μ) (s : j (hp W) vs x) (u : kG E c = fv) (ha : ax.map (kG E) ++ (#[] : Array Value) = vs.toArray) (hm : pm x = some r) (h : ∀ W', ST false F w W' μ L → K (k r) W') : nH P E ⟨d, .call ⟨.value c, ax, ats⟩, ty, pos, af, g⟩ W K := by
 obtain ⟨f, first, caps, rfl, m, n⟩ := t
 have i : ax.map (kG E) = vs.toArray := by simpa using ha
 refine .inr (.inr ⟨f, (first.toList ++ (vs ++ caps.toList)).toArray, ?_, cH (n W x vs r (v.trans a.kJ) s hm) (fun _ _ ⟨o, q⟩ => ⟨_, o, h _ (a.HP q)⟩)⟩)
 show (do let d ← resolve (kG E) ⟨.value c, ax, ats⟩ ty; invoke d.target d.args : Sem Next).run P W = _
 simp only [resolve, u, Deferred.ofValue, cd, da, bK, invoke, i, m]
 congr 2
 simp
end
section
variable {dd : Bool}
variable {β : Type} {Rl : rA β} {k : Nat} {μ : lm} {v : Value} {l : List β} {e : TypeId} {B : List (Nat × Obj)}
variable {F : Nat → Prop} {w W : World} {L : List (Nat × Obj)}
variable {P : Program} {E : Nat → Value} {d : Option Nat} {ty : TypeId} {pos : String} {af : Array Edge} {g : Option (Nat × Bool)}
theorem Nf {α : Type} {enc : α → List Value} (hk : ∀ x, (enc x).length = k) (c : 0 < k) (d : ∀ x y, enc x = enc y → x = y) : ∀ {l m : List α}, (l.map enc).flatten = (m.map enc).flatten → l = m
 | [], [], _ => rfl
 | [], b :: m, h => by
  have := aV List.length h
  simp only [fj, jT, bW, bD, dt, aH, hk] at this
  omega
 | a :: l, [], h => by
  have := aV List.length h
  simp only [fj, jT, bW, bD, dt, aH, hk] at this
  omega
 | a :: l, b :: m, h => by
  simp only [bD, dt] at h
  obtain ⟨h1, g⟩ := List.append_inj h (by rw [hk, hk])
  rw [d _ _ h1, Nf hk c d g]
theorem Y1 (x y : tU k) (h : wW x = wW y) : x = y := Subtype.ext h
theorem kU.pre {v1 : Value} {cl a : List (tU k)} (g : 0 < k) (h : kU e wW k v cl B) (h1 : kU e wW k v1 a B) (d : a.length ≤ cl.length) : a = cl.take a.length := by
 rcases h with ⟨rfl, rfl, rfl⟩ | ⟨t, cap, c, rfl, rfl, u, w, x, q⟩
 ·simp at d; simp [d]
 ·rcases h1 with ⟨_, _, h⟩ | ⟨g1, i, j, rfl, m, s, a2, a3, a4⟩
  ·cases h
  ·cases m
   refine Nf Dn g Y1 ?_
   rw [← a4]
   have hle : a.length * k ≤ cl.length * k := cn _ d
   have : c.toList.take (a.length * k) = (c.toList.take (cl.length * k)).take (a.length * k) := by rw [eJ, cP hle]
   rw [this, q]
   have n : (cl.map wW).flatten = ((cl.take a.length).map wW).flatten ++ ((cl.drop a.length).map wW).flatten := by rw [← fY, ← ct, fD]
   have o : ((cl.take a.length).map wW).flatten.length = a.length * k := by rw [pJ Dn, cy, cP d]
   rw [n, ← o, gI]
theorem qI.replicate {α β : Type} {Q : α → β → Prop} {a : α} {b : β} (h : Q a b) : ∀ n, qI Q (List.replicate n a) (List.replicate n b)
 | 0 => .nil
 | n + 1 => .cons h (qI.replicate h n)
theorem Qn {t e' : TypeId} {x ih : Operand} {y : IntKind} {i : Int} (s : P.underlying t = some (.slice e')) (he : ∀ w, (sizeOf e').run P w = .ok k w) (u : kG E x = v) (o : kG E ih = .int y i) (h : nm e Rl k μ v l B) (j : 0 ≤ i) (q : i ≤ l.length) :
  ∃ a, nm e Rl k μ a (l.take i.toNat) B ∧ ∀ W, mw P E ⟨d, .slice t x none (some ih) none, ty, pos, af, g⟩ W a W := by
 obtain ⟨cl, h1, c⟩ := h
 obtain ⟨a, m, n⟩ := ui (d := d) (ty := ty) (pos := pos) (af := af) (g := g) s he u o h1 Dn j (by rw [c.length]; exact q)
 exact ⟨a, ⟨_, m, c.take _⟩, n⟩
theorem nm.SU {c d : List β} {i : Value} {R2 : List (Nat × Obj)} (a : 0 < k) (j : nm e Rl k μ v l B) (h1 : nm e Rl k μ i d B) (m : nm e Rl k μ v c R2) (n : d.length ≤ c.length) : nm e Rl k μ i (c.take d.length) R2 := by
 obtain ⟨cl, o, t⟩ := j
 obtain ⟨c1, q, g⟩ := h1
 obtain ⟨c2, s, h⟩ := m
 refine ⟨_, kU.SU a Dn o q s (by rw [g.length, h.length]; exact n), ?_⟩
 rw [g.length]
 exact h.take _
end
section
variable {P : Program} {W : World} {E : Nat → Value} {d : Option Nat} {ty : TypeId} {pos : String} {af : Array Edge} {g : Option (Nat × Bool)}
theorem SF {tx tv : TypeId} {x y : Operand} {fv : Value} {s u : Array TypeId} {bb : Bool} (i : P.underlying tx = some (.func s u bb)) (h : ∃ f a b, fv = .func f a b) (j : kG E x = fv) (k : kG E y = .nilFunc) :
  mw P E ⟨d, .binOp .neq tx x y tv, ty, pos, af, g⟩ W (.bool true) W := by
 obtain ⟨f, a, b, rfl⟩ := h
 show (do let r ← (do eqGuard .neq tx x y (kG E x) (kG E y); binOp .neq tx (kG E x) (kG E y)); pure (.value r) : Sem Next).run P W = _
 rw [j, k]
 have c := Ax 9999 i f a b W
 simp [eqGuard, binOp, Op.equal, show Op.maxDepth = 9999 + 1 from rfl, c]
end
theorem bS {α β : Type} {m : Option α} {f : α → Option β} {r : β} {G : Prop} (h : m.bind f = some r) (k : ∀ x, m = some x → f x = some r → G) : G :=
 let ⟨x, a, b⟩ := bind_some h
 k x a b
theorem sj {α : Type} {a b : α} (h : some a = some b) : a = b := kj h
theorem bC {α : Type} {b : Bool} {x y r : α} {G : Prop} (h : (if b = true then x else y) = r) (a : b = true → x = r → G) (k2 : b = false → y = r → G) : G := by
 rcases Q7 b with e | e
 ·exact a e (WO e h)
 ·exact k2 e (WS e h)
theorem cB {a b : Bool} (h : a = b) : Value.bool a = Value.bool b := aV Value.bool h
theorem nb {a b : Nat} (h : Nat.ble a b = true := by exact rfl) : a ≤ b := Nat.le_of_ble_eq_true h
def Yx : Nat → Nat → List Bool
 | 0, _ => []
 | n + 1, m => (m % 2 == 1) :: Yx n (m / 2)
def bm (n m : Nat) : Array Bool := (Yx n m).toArray
section
variable {P : Program} {n : Nat} {Q : oD} {E : Nat → Value} {W : World}
theorem CI {α : Type} {co : Operand} {b : Bool} {x y : Code} {A B r : α} (hm : (if b = true then A else B) = r) (a : kG E co = .bool b) (d : b = true → A = r → CW P n x Q E W) (c : b = false → B = r → CW P n y Q E W) : CW P n (.cond co x y) Q E W :=
 QJ a (fun e => d e (WO e hm)) (fun e => c e (WS e hm))
theorem CJ {c ρ : Type} {m : Option c} {k : c → Option ρ} {r : ρ} {x : Code} {K : (Nat → Value) → World → Prop} (hm : m.bind k = some r) (I : c → (Nat → Value) → World → Prop) (h1 : ∀ s, m = some s → CW P n x (qG (I s) Q) E W) (d : ∀ s E W, I s E W → k s = some r → K E W) : CW P n x (qG K Q) E W :=
 let ⟨s, a, b⟩ := bind_some hm
 Sm (I s) (h1 s a) (fun E W h => d s E W h b)
theorem HA {d ρ c : Type} {m : Option (c ⊕ d)} {k : c ⊕ d → Option ρ} {r : ρ} {x : Code} {K : (Nat → Value) → World → Prop} (hm : m.bind k = some r) (I : d → (Nat → Value) → World → Prop) (h1 : ∀ s, m = some s → k s = some r → CW P n x (qG (fun E W => ∃ t, s = .inr t ∧ I t E W) Q) E W) (g : ∀ s E W, I s E W → k (.inr s) = some r → K E W) : CW P n x (qG K Q) E W :=
 let ⟨s, a, b⟩ := bind_some hm
 Sm (fun E W => ∃ t, s = .inr t ∧ I t E W) (h1 s a b) (fun E W ⟨t, e, h⟩ => g t E W h (by subst e; exact b))
theorem LJ {c ρ : Type} {m : Option c} {k : c → Option ρ} {r : ρ} {ops : Array Oper} {rest : List Oper} (hm : m.bind k = some r) (I : c → (Nat → Value) → World → Prop) (j : Nat) (d : ∀ s E W, I s E W → k s = some r → LW P n ops Q (rest.drop j) E W) (h1 : ∀ s, m = some s → (∀ E W, I s E W → LW P n ops Q (rest.drop j) E W) → LW P n ops Q rest E W) : LW P n ops Q rest E W :=
 let ⟨s, a, b⟩ := bind_some hm
 h1 s a (fun E W h => d s E W h b)
theorem PJ {c ρ : Type} {m : Option c} {k : c → Option ρ} {r : ρ} {ops : Array Oper} {S : Array Bool → World → Prop} {fuel : Nat} {listed : Array Bool} (hm : m.bind k = some r) (I : c → (Nat → Value) → World → Prop) (g : Array Bool) (d : Nat) (i : ∀ s E W, I s E W → k s = some r → PX P n ops Q S d g E W) (h1 : ∀ s, m = some s → (∀ E W, I s E W → PX P n ops Q S d g E W) → PX P n ops Q S fuel listed E W) : PX P n ops Q S fuel listed E W :=
 let ⟨s, a, b⟩ := bind_some hm
 h1 s a (fun E W h => i s E W h b)
theorem cF (n : Nat) {f : FuncId} {fn : Func} {c : Code} {args : List Value} {w : World} {R : Ending → World → Prop} (a : P.funcs[f]? = some fn) (d : fn.body = some c) (h : CW P n c (yL P fn R) (yu args) w) (i : fn.ntmps = n := by exact rfl) (g : args.length ≤ n := by exact nb) : Calls P f args.toArray w R := zU a d i g h
end
section
variable {dd : Bool} {P : Program} {fn : Func} {E : Nat → Value} {W w : World} {μ : lm} {L : List (Nat × Obj)}
theorem rP {t : Tmp} {v : Value} (a : ST dd ll w W μ L) (c : fn.results = #[.tmp t] := by exact rfl) (d : E t = v := by exact rfl) : yL P fn (fun e W' => e = .returned v ∧ Ex dd w W') .ret E W := lI c d ⟨rfl, a.ex⟩
end
theorem ST.Ht {dd : Bool} {F : Nat → Prop} {w W : World} {μ : lm} {x : Nat × Obj} {L : List (Nat × Obj)} (h : ST dd F w W μ (x :: L)) : ST dd F w W μ ([x] ++ L) := h
theorem ST.WQ {dd : Bool} {F : Nat → Prop} {w W : World} {μ : lm} {L : List (Nat × Obj)} (h : ST dd F w W μ L) : ST dd F w W μ ([] ++ L) := h
theorem aL {E : Nat → Value} {ax : Array Operand} {l : List Value} (h : ax.toList.map (kG E) = l) : ax.map (kG E) ++ (#[] : Array Value) = l.toArray := by subst h; apply Array.ext'; simp
section
variable {dd : Bool}
variable {P : Program} {E : Nat → Value} {W : World} {d : Option Nat} {ty : TypeId} {pos : String} {af : Array Edge} {g : Option (Nat × Bool)}
 {F : Nat → Prop} {w : World} {μ : lm} {L : List (Nat × Obj)}
variable {f : FuncId} {fv : Operand} {ax : Array Operand} {ats : Array TypeId} {args : List Value} {v : Value} {K : Value → World → Prop}
theorem Eg (a : ST dd F w W μ L) (he : ∀ args w, (callFunc f args).run P w = .ok (.enter f args) w) (c : la dd P f args W v) (h : ∀ W', ST dd F w W' μ L → K v W') (i : kG E fv = .func (.func f) #[] #[] := by exact rfl) (ha : ax.toList.map (kG E) = args := by exact rfl) : nH P E ⟨d, .call ⟨.value fv, ax, ats⟩, ty, pos, af, g⟩ W K := Pv a i he (aL ha) c h
theorem pF {α : Type} {e : TypeId} {enc : α → List Value} {k : Nat} {l : List α} {Y : List (Nat × Obj)} (a : ST dd F w W μ Y) (he : ∀ args w, (callFunc f args).run P w = .ok (.enter f args) w) (c : lK dd P f args W e enc k l) (h : ∀ W' v μ' R, ST dd F w W' μ' (R ++ Y) → kY μ μ' → Lo F w μ μ' → kU e enc k v l R → K v W') (i : kG E fv = .func (.func f) #[] #[] := by exact rfl) (ha : ax.toList.map (kG E) = args := by exact rfl) : nH P E ⟨d, .call ⟨.value fv, ax, ats⟩, ty, pos, af, g⟩ W K := P8 _ a i he (aL ha) c h
theorem Jy {K' : Value → List (Nat × Obj) → World → Prop} {L0 L2 : List (Nat × Obj)} (i : ST dd F w W μ L) (j : L.Perm (L0 ++ L2)) (he : ∀ args w, (callFunc f args).run P w = .ok (.enter f args) w) (k : EU L0 W → (L0.map (·.1)).Nodup → kY μ (sH W L0) → (∀ b o, (b, o) ∈ L2 → sH W L0 b = some o) → mh dd P f args W L0 K') (h : ∀ W' v μ' L1, ST dd F w W' μ' (L1 ++ L2) → kY μ μ' → Lo F w μ μ' → (∀ b, W.heap.size ≤ b → ∀ o, sH W' L1 b = some o → μ' b = some o) → K' v L1 W' → K v W') (m : kG E fv = .func (.func f) #[] #[] := by exact rfl) (ha : ax.toList.map (kG E) = args := by exact rfl) : nH P E ⟨d, .call ⟨.value fv, ax, ats⟩, ty, pos, af, g⟩ W K :=
 U6 L0 L2 i j m he (aL ha) (fun a b c d => by have := k a b c d; simpa using this) h
theorem PK {K' : Value → List (Nat × Obj) → lm → Prop} {L0 L2 : List (Nat × Obj)} (i : ST dd F w W μ L) (j : L.Perm (L0 ++ L2)) (he : ∀ args w, (callFunc f args).run P w = .ok (.enter f args) w) (k : EU L0 W → (L0.map (·.1)).Nodup → kY μ (sH W L0) → (∀ b o, (b, o) ∈ L2 → sH W L0 b = some o) → pg dd P f args W μ L0 K') (h : ∀ W' v μ' L1, ST dd F w W' μ' (L1 ++ L2) → kY μ μ' → Lo F w μ μ' → K' v L1 μ' → K v W') (m : kG E fv = .func (.func f) #[] #[] := by exact rfl) (ha : ax.toList.map (kG E) = args := by exact rfl) : nH P E ⟨d, .call ⟨.value fv, ax, ats⟩, ty, pos, af, g⟩ W K :=
 Oi L0 L2 i j m he (aL ha) (fun a b c d => by have := k a b c d; simpa using this) h
end
section
variable {E : Nat → Value} {x1 x2 x3 x4 x5 x6 x7 x8 : Operand} {v1 v2 v3 v4 v5 v6 v7 v8 : Value}
theorem Zm (h1 : kG E x1 = v1) : [x1].map (kG E) = [v1] := by rw [← h1]; rfl
end
def Zf (R : List (Nat × Obj)) (k : Nat) (p : Value) (i a : Nat) : Prop := ∃ g o, R = [(g, o)] ∧ p = .pointer (some ⟨g, i * k + a, none⟩)
theorem E2.f {R : List (Nat × Obj)} {k : Nat} {p : Value} {i : Nat} (h : E2 R k p i) : Zf R k p i 0 := h
section
variable {P : Program} {E : Nat → Value} {W : World} {d : Option Nat} {ty : TypeId} {pos : String} {af : Array Edge} {g : Option (Nat × Bool)}
 {dd : Bool} {F : Nat → Prop} {w : World} {μ : lm} {L : List (Nat × Obj)} {α : Type} {e' : TypeId} {enc : α → List Value} {k : Nat} {v : Value} {l : List α} {R : List (Nat × Obj)}
theorem kU.put (h : kU e' enc k v l R) (hk : ∀ x, (enc x).length = k) {p : Value} {i : Nat} (hp : E2 R k p i) {x0 : α} (t : l[i]? = some x0) (x1 : α) :
  ∃ g a, R = [(g, .cells a e' (0, 0))] ∧ p = .pointer (some ⟨g, i * k, none⟩) ∧ i * k + k ≤ a.size ∧ (∀ j y, (enc x0)[j]? = some y → a[i * k + j]? = some y) ∧
   kU e' enc k v (l.set i x1) [(g, .cells (a.toList.take (i * k) ++ enc x1 ++ a.toList.drop (i * k + k)).toArray e' (0, 0))] := by
 have n : i < l.length := (bA.1 t).1
 obtain ⟨q, a, cap, rfl, rfl, s, z, m, A, rfl, D⟩ := Dk h hk hp t
 have hle : i * k + k ≤ cap * k := by
  have : (i + 1) * k ≤ cap * k := cn _ (by omega)
  rwa [cA, kk] at this
 have c : i * k + k ≤ l.length * k := by
  have : (i + 1) * k ≤ l.length * k := cn _ (by omega)
  rwa [cA, kk] at this
 have hlen : l.length * k ≤ cap * k := cn _ s
 refine ⟨q, a, rfl, rfl, by rw [m]; exact hle, D, .inr ⟨q, cap, _, by simp, rfl, by simpa using s, z, ?_, ?_⟩⟩
 ·show ((a.toList.take (i * k) ++ (enc x1) ++ a.toList.drop (i * k + k)).toArray).size = _
  have d : a.toList.length = cap * k := by simpa using m
  rw [cM, aH, aH, cy, dn, hk, d, cP (by omega)]; omega
 ·rw [iN, Iy hk l i x1 n, ← A]
  have u : (a.toList.take (l.length * k)).take (i * k) = a.toList.take (i * k) := by rw [eJ]; congr 1; omega
  have w : (a.toList.take (l.length * k)).drop (i * k + k) = (a.toList.drop (i * k + k)).take (l.length * k - (i * k + k)) := by rw [gD]
  rw [u, w]
  show List.take (l.length * k) (a.toList.take (i * k) ++ enc x1 ++ a.toList.drop (i * k + k)) = _
  have d : a.toList.length = cap * k := by simpa using m
  have o : (a.toList.take (i * k) ++ enc x1).length = i * k + k := by rw [aH, cy, hk, d, cP (by omega)]
  rw [eF, cX (by rw [o]; exact c), o]
end
theorem oc {v : Value} (h : v.cells.toList.all Value.oneCell' = true := by exact rfl) : ∀ u ∈ v.cells.toList, u.oneCell' = true := dI.1 h
theorem dc {p : Prop} [Decidable p] (h : p := by decide) : p := h
theorem kr {p : Prop} (h : p := by kernel_rfl) : p := h
theorem br {α : Sort _} {a b : α} (h : a = b := by rfl) : a = b := h
abbrev LO := List (Nat × Obj)
abbrev Ob (c : Array Value) (t : TypeId) : Obj := .cells c t (0, 0)
abbrev Ol (c : List Value) (t : TypeId) : Obj := .cells c.toArray t (0, 0)
theorem mD {P : Program} {t e : TypeId} {m k : Nat} {z : Value} {a : Array (Nat × Value)} {cs : Array Value} (j : P.underlying t = some (.slice e)) (i : ∀ w, (sizeOf e).run P w = .ok k w) (o : ∀ w, (zeroValue e).run P w = .ok z w) (hm : m * k ≤ 16777216 := by decide) (g : a.toList = (a.toList.map (·.2)).zipIdx.map (fun p => (p.2, p.1)) := by exact rfl) (n : (a.toList.map (·.2)).all (fun v => v.cells.size == k) = true := by exact rfl) (d : (a.toList.map (·.2)).length = m := by exact rfl) (c : ((a.toList.map (·.2)).flatMap (fun v => v.cells.toList)).toArray = cs := by exact rfl) (W : World) :
  (Instr.buildSlice t m a).run P W = .ok (.slice (some ⟨W.heap.size, 0, none⟩) m m) (W.alloc (.cells cs e (0, 0))) :=
 zB _ j i o hm g (fun v h => eq_of_beq (dI.1 n v h)) d c W
section
variable {dd : Bool} {P : Program} {fn : Func} {E : Nat → Value} {W w : World} {μ : lm} {L L0 : List (Nat × Obj)}
theorem rQ {α : Type} {f : α → Value} {a r : α} {t : Tmp} (hm : some a = some r) (c : ST dd ll w W μ L) (d : fn.results = #[.tmp t] := by exact rfl) (g : E t = f a := by exact rfl) : yL P fn (fun e W' => e = .returned (f r) ∧ Ex dd w W') .ret E W := by
 obtain rfl := sj hm; exact lI d g ⟨rfl, c.ex⟩
theorem cG (n : Nat) {f : FuncId} {c : Code} {args : List Value} {v : Value} (a : P.funcs[f]? = some fn) (d : fn.body = some c) (h : ST dd ll w w (hp w) [] → CW P n c (yL P fn (fun e j => e = .returned v ∧ Ex dd w j)) (yu args) w) (i : fn.ntmps = n := by exact rfl) (g : args.length ≤ n := by exact nb) : la dd P f args w v := zU a d i g (h (ST.start w))
theorem sP {K : Value → List (Nat × Obj) → World → Prop} (n : Nat) {f : FuncId} {c : Code} {args : List Value} (a : P.funcs[f]? = some fn) (g : fn.body = some c) (h : ST dd ll w w (hp w) [] → CW P n c (yL P fn (fun e d => ∃ v L1, e = .returned v ∧ sG dd [] L1 w d ∧ K v L1 d)) (yu args) w) (j : fn.ntmps = n := by exact rfl) (i : args.length ≤ n := by exact nb) : mh dd P f args w [] K := zU a g j i (h (ST.start w))
theorem zN {K : Value → List (Nat × Obj) → World → Prop} (g : pP μ L0 w) (n : Nat) {f : FuncId} {c : Code} {args : List Value} (a : P.funcs[f]? = some fn) (i : fn.body = some c) (h : ST dd (keys L0) w w μ L0 → CW P n c (yL P fn (fun e d => ∃ v L1, e = .returned v ∧ sG dd L0 L1 w d ∧ K v L1 d)) (yu args) w) (k : fn.ntmps = n := by exact rfl) (j : args.length ≤ n := by exact nb) : mh dd P f args w L0 K := zU a i k j (h (ST.wT g))
theorem RI {K : Value → List (Nat × Obj) → lm → Prop} (g : pP μ L0 w) (n : Nat) {f : FuncId} {c : Code} {args : List Value} (a : P.funcs[f]? = some fn) (i : fn.body = some c) (h : ST dd (keys L0) w w μ L0 → CW P n c (yL P fn (fun e d => ∃ v L1 μ1, e = .returned v ∧ sG dd L0 L1 w d ∧ kY μ μ1 ∧ Lo (keys L0) w μ μ1 ∧ kY μ1 (sH d L1) ∧ K v L1 μ1)) (yu args) w) (k : fn.ntmps = n := by exact rfl) (j : args.length ≤ n := by exact nb) : pg dd P f args w μ L0 K := zU a i k j (h (ST.wT g))
end
section
variable {dd : Bool}
variable {P : Program} {E : Nat → Value} {W : World} {d : Option Nat} {ty : TypeId} {pos : String} {af : Array Edge} {g : Option (Nat × Bool)}
 {F : Nat → Prop} {w : World} {μ : lm} {L : List (Nat × Obj)}
variable {f : FuncId} {fv : Operand} {ax : Array Operand} {ats : Array TypeId} {args : List Value} {v : Value} {K : Value → World → Prop}
theorem eM {K' : Value → List (Nat × Obj) → World → Prop} {L0 L2 : List (Nat × Obj)} (i : ST dd F w W μ L) (j : L.Perm (L0 ++ L2)) (he : ∀ args w, (callFunc f args).run P w = .ok (.enter f args) w) (k : pP (sH W L0) L0 W → kY μ (sH W L0) → mh dd P f args W L0 K') (h : ∀ W' v μ' L1, ST dd F w W' μ' (L1 ++ L2) → kY μ μ' → Lo F w μ μ' → (∀ b, W.heap.size ≤ b → ∀ o, sH W' L1 b = some o → μ' b = some o) → K' v L1 W' → K v W') (m : kG E fv = .func (.func f) #[] #[] := by exact rfl) (ha : ax.toList.map (kG E) = args := by exact rfl) : nH P E ⟨d, .call ⟨.value fv, ax, ats⟩, ty, pos, af, g⟩ W K :=
 Jy i j he (fun a b c _ => k ⟨a, b, kY.refl _⟩ c) h m ha
theorem eD {K' : Value → List (Nat × Obj) → lm → Prop} {L0 L2 : List (Nat × Obj)} (i : ST dd F w W μ L) (j : L.Perm (L0 ++ L2)) (he : ∀ args w, (callFunc f args).run P w = .ok (.enter f args) w) (k : pP μ L0 W → pg dd P f args W μ L0 K') (h : ∀ W' v μ' L1, ST dd F w W' μ' (L1 ++ L2) → kY μ μ' → Lo F w μ μ' → K' v L1 μ' → K v W') (m : kG E fv = .func (.func f) #[] #[] := by exact rfl) (ha : ax.toList.map (kG E) = args := by exact rfl) : nH P E ⟨d, .call ⟨.value fv, ax, ats⟩, ty, pos, af, g⟩ W K :=
 PK i j he (fun a b c _ => k ⟨a, b, c⟩) h m ha
end
def RW (op : BinOp) : Value → Value → Option Value
 | .int k a, .int k' b => if k = k' then Mq k op a b else none
 | _, _ => none
def WR (i : Nat) : Value → Option Value
 | .tuple vs => vs[i]?
 | _ => none
def My : Value → Bool
 | .pointer (some ⟨_, _, none⟩) => true
 | _ => false
def Wy (o : Nat) : Value → Value
 | .pointer (some ⟨b, k, none⟩) => .pointer (some ⟨b, k + o, none⟩)
 | v => v
theorem Lb {v : Value} (h : My v = true) : ∃ b k, v = .pointer (some ⟨b, k, none⟩) := by
 unfold My at h; split at h
 ·exact ⟨_, _, rfl⟩
 ·cases h
section
variable {P : Program} {n : Nat} {Q : oD} {E : Nat → Value} {W : World} {ops : Array Oper} {rest : List Oper}
 {d j t : Nat} {want b : Bool} {v : Value} {ins : Go.Op} {ty : TypeId} {pos : String} {af : Array Edge} {A : Value → Prop} {x y : Operand}
theorem Wm (h : LW P n ops Q rest (nA E d (kG E x)) W) (a : d < n := by decide) : LW P n ops Q (⟨some d, .move x, ty, pos, af, none⟩ :: rest) E W := V (kH rfl) h a
theorem Wa (h : LW P n ops Q rest (nA E d (kG E x)) W) (a : d < n := by decide) : LW P n ops Q (⟨some d, .assign x, ty, pos, af, none⟩ :: rest) E W := V (mN rfl) h a
theorem Wh (c : kG E x = v) (h : LW P n ops Q rest (nA E d v) W) (a : d < n := by decide) : LW P n ops Q (⟨some d, .move x, ty, pos, af, none⟩ :: rest) E W := V (kH c) h a
theorem Wg (c : kG E x = v) (h : LW P n ops Q rest (nA E d v) W) (a : d < n := by decide) : LW P n ops Q (⟨some d, .assign x, ty, pos, af, none⟩ :: rest) E W := V (mN c) h a
theorem Wx {i : Nat} (a : WR i (kG E x) = some v) (h : LW P n ops Q rest (nA E d v) W) (c : d < n := by decide) : LW P n ops Q (⟨some d, .extract x i, ty, pos, af, none⟩ :: rest) E W := by
 unfold WR at a; split at a
 ·rename_i vs e; exact V (B6 e a) h c
 ·cases a
theorem Wi {op : BinOp} {tx tv : TypeId} (c : RW op (kG E x) (kG E y) = some v) (h : LW P n ops Q rest (nA E d v) W) (j : d < n := by decide) : LW P n ops Q (⟨some d, .binOp op tx x y tv, ty, pos, af, none⟩ :: rest) E W := by
 unfold RW at c; split at c
 ·rename_i k a k' b g i
  split at c
  ·rename_i e; subst e; exact V (lL g i c) h j
  ·cases c
 ·cases c
theorem Wf {t : TypeId} {f off : Nat} (a : mg P t f off) (h : LW P n ops Q rest (nA E d (Wy off (kG E x))) W) (hp : My (kG E x) = true := by exact rfl) (c : d < n := by decide) : LW P n ops Q (⟨some d, .fieldAddr t x f, ty, pos, af, none⟩ :: rest) E W := by
 obtain ⟨b, k, e⟩ := Lb hp
 refine V (kD a e) ?_ c
 rw [e] at h; exact h
theorem Wn (h : LW P n ops Q rest (nA E d (kG E x)) W) (hp : My (kG E x) = true := by exact rfl) (a : d < n := by decide) : LW P n ops Q (⟨some d, .nilCheck x, ty, pos, af, none⟩ :: rest) E W := by
 obtain ⟨b, k, e⟩ := Lb hp
 refine V (nv e) ?_ a
 rw [e] at h; exact h
theorem un (h : b = !want) (k : LW P n ops Q rest (nA E d undef) W) (c : (ops[j]?).bind (·.dst) = some t := by exact rfl) (a : E t = .bool b := by exact rfl) (i : t < n := by decide) (g : d < n := by decide) :
  LW P n ops Q (⟨some d, ins, ty, pos, af, some (j, want)⟩ :: rest) E W := Vn c (by rw [a, h]) k i g
theorem ug (h : b = want) (i : mw P E ⟨some d, ins, ty, pos, af, some (j, want)⟩ W v W) (k : LW P n ops Q rest (nA E d v) W) (c : (ops[j]?).bind (·.dst) = some t := by exact rfl) (a : E t = .bool b := by exact rfl) (m : t < n := by decide) (g : d < n := by decide) :
  LW P n ops Q (⟨some d, ins, ty, pos, af, some (j, want)⟩ :: rest) E W := Vg c (by rw [a, h]) i k m g
theorem pX (h : b = want) (k : nH P E ⟨some d, ins, ty, pos, af, some (j, want)⟩ W fun v W' => LW P n ops Q rest (nA E d v) W') (c : (ops[j]?).bind (·.dst) = some t := by exact rfl) (a : E t = .bool b := by exact rfl) (i : t < n := by decide) (g : d < n := by decide) :
  LW P n ops Q (⟨some d, ins, ty, pos, af, some (j, want)⟩ :: rest) E W := Sz c (by rw [a, h]) k i g
theorem Ut (h : b = want) (i : ∃ p, A p ∧ ∀ W, mw P E ⟨some d, ins, ty, pos, af, some (j, want)⟩ W p W) (k : ∀ p, A p → LW P n ops Q rest (nA E d p) W) (c : (ops[j]?).bind (·.dst) = some t := by exact rfl) (a : E t = .bool b := by exact rfl) (m : t < n := by decide) (g : d < n := by decide) :
  LW P n ops Q (⟨some d, ins, ty, pos, af, some (j, want)⟩ :: rest) E W := Yw c (by rw [a, h]) i k m g
section
variable {dd : Bool} {F : Nat → Prop} {w : World} {μ : lm} {L : List (Nat × Obj)} {T : TypeId} {a off : Nat} {cs : Array Value} {fr : Nat × Nat}
theorem VA {t : TypeId} (c : ST dd F w W μ L) (i : (a, Obj.cells cs T fr) ∈ L) (ys : List Value) (g : ∀ w, (isAgg t).run P w = .ok true w) (j : ∀ w, (sizeOf t).run P w = .ok ys.length w) (h : LW P n ops Q rest (nA E d (.agg ys.toArray)) W) (m : kG E x = .pointer (some ⟨a, off, none⟩) := by exact rfl) (o : (cs.toList.drop off).take ys.length = ys := by exact rfl) (k : d < n := by decide) : LW P n ops Q (⟨some d, .load t x, ty, pos, af, none⟩ :: rest) E W := V (kA m (kI c.has i ys o g j)) h k
theorem VB {t : TypeId} (c : ST dd F w W μ L) (i : (a, Obj.cells cs T fr) ∈ L) (k : kG E x = .pointer (some ⟨a, off, none⟩)) (m : cs[off]? = some v) (g : ∀ w, (isAgg t).run P w = .ok false w) (h : LW P n ops Q rest (nA E d v) W) (j : d < n := by decide) : LW P n ops Q (⟨some d, .load t x, ty, pos, af, none⟩ :: rest) E W := V (kA k (kM c.has i m g)) h j
end
section
variable {K : (Nat → Value) → World → Prop} {Q' : oD} {c : Code} {id id2 : Nat} {l : List Oper} {z : Code}
theorem sg (h : LW P n l.toArray (qG (fun E W => CW P n c Q E W) Q) l E W) : CW P n (.seq (.region id l.toArray false) c) Q E W := kO (kL h)
theorem ln (h : K E W) : LW P n ops (qG K Q) [] E W := lh (kF h)
theorem lr (h : LW P n l.toArray (qG (fun E W => CW P n c Q E W) Q) l E W) : LW P n ops (qG (fun E W => CW P n (.seq (.region id l.toArray false) c) Q E W) Q') [] E W := lh (kF (kO (kL h)))
theorem lS (h : LW P n l.toArray (qG (fun E W => CW P n c (qG (fun E W => CW P n z Q E W) Q) E W) (qG (fun E W => CW P n z Q E W) Q)) l E W) : LW P n ops (qG (fun E W => CW P n (.seq (.seq (.region id l.toArray false) c) z) Q E W) Q') [] E W := lh (kF (kO (kO (kL h))))
theorem bg (h : LW P n l.toArray (qG (fun E W => CW P n c (xW id2 Q) E W) (xW id2 Q)) l E W) : CW P n (.block id2 (.seq (.region id l.toArray false) c)) Q E W := mK (kO (kL h))
theorem kg (h : LW P n l.toArray (qG (fun E W => CW P n c Q E W) Q) l E W) : CW P n .skip (qG (fun E W => CW P n (.seq (.region id l.toArray false) c) Q E W) Q') E W := lz (kF (kO (kL h)))
theorem kS (h : LW P n l.toArray (qG (fun E W => CW P n c (qG (fun E W => CW P n z Q E W) Q) E W) (qG (fun E W => CW P n z Q E W) Q)) l E W) : CW P n .skip (qG (fun E W => CW P n (.seq (.seq (.region id l.toArray false) c) z) Q E W) Q') E W := lz (kF (kO (kO (kL h))))
theorem lt (h : Q .ret E W) : LW P n ops (qG (fun E W => CW P n .ret Q E W) Q') [] E W := lh (kF (lj h))
theorem kn (h : K E W) : CW P n .skip (qG K Q) E W := lz (kF h)
end
end
theorem ST.XT {α : Type} {dd : Bool} {F : Nat → Prop} {w W : World} {μ : lm} {R Y : List (Nat × Obj)} {e' : TypeId} {enc : α → List Value} {k : Nat} {v : Value} {l : List α} (d : ST dd F w W μ (R ++ Y)) (h : qL e' enc k v l R) (hk : ∀ x, (enc x).length = k) : ∃ μ', ST dd F w W μ' Y ∧ kY μ μ' ∧ Lo F w μ μ' ∧ Sl (Pl enc) k μ' v l := by
 obtain ⟨μ', g, a2, a3, a4⟩ := ST.AS d
 refine ⟨μ', g, a2, a3, (h.Hd hk).mono (Pl.mono _) (fun b o a => ?_)⟩
 unfold Cu at a
 cases c : List.find? (fun p => p.1 == b) R with
 | none => rw [c] at a; cases a
 | some q =>
  rw [c] at a
  have h1 := eO c
  have i := ki c
  obtain rfl : q.2 = o := by simpa using a
  obtain rfl : q.1 = b := by simpa using i
  exact a4 _ _ h1
section
variable {P : Program} {E : Nat → Value} {W : World} {d : Option Nat} {ty : TypeId} {pos : String} {af : Array Edge} {g : Option (Nat × Bool)}
theorem WE {tx tv : TypeId} {x y : Operand} {k : IntKind} {a b : Int} (c : kG E x = .int k a) (h : kG E y = .int k b) :
  mw P E ⟨d, .binOp .andNot tx x y tv, ty, pos, af, g⟩ W (.int k (k.wrap (BitVec.ofInt k.bits a &&& ~~~ BitVec.ofInt k.bits b).toNat)) W := by
 show (do let r ← (do eqGuard .andNot tx x y (kG E x) (kG E y); binOp .andNot tx (kG E x) (kG E y)); pure (.value r) : Sem Next).run P W = _
 rw [c, h]
 simp [eqGuard, binOp, Op.intBits]
end
def Yr {β : Type} (P : Program) (fv : Value) (μ : lm) (Rl : rA β) (pm : β × β → Option Int) : Prop :=
 ∃ f caps, fv = .func (.func f) #[] caps ∧ (∀ args w, (callFunc f args).run P w = .ok (.enter f args) w) ∧ ∀ W x y z r, kY μ (hp W) → Rl (hp W) [y] x.1 → Rl (hp W) [z] x.2 → pm x = some r → la true P f ([y, z] ++ caps.toList) W (.int .i64 r)
open Classical in
noncomputable def EC {β : Type} (cf : β × β → Option Int) (l : List β) : Option (List β) := if l.Nodup then yA cf l else none
theorem qL.RA {α : Type} {dd : Bool} {w W : World} {μ : lm} {L R : List (Nat × Obj)} {e : TypeId} {enc : α → List Value} {k : Nat} {v : Value} {l : List α} (h : qL e enc k v l R) (c : ST dd ll w W μ L) (i : ∀ p, p ∈ R → p ∈ L) : Fr w.heap.size v := by
 rcases h with ⟨rfl, rfl, rfl⟩ | ⟨g, off, cap, a, rfl, rfl, h1, j, m, n⟩
 ·exact Fr.nil _
 ·intro b d
  simp [Value.ownBlock] at d
  subst d
  rcases (c.box g (.cells a e (0, 0)) (i _ (aO.2 rfl))).2.2 with h | h
  ·exact h
  ·exact h.elim
theorem Ip.mono {α β : Type} {P : Program} {fv : Value} {μ μ0 : lm} {a : α → List Value} {c : β → Value} {pm : α → Option β} (h : Ip P fv μ a c pm) (i : kY μ μ0) : Ip P fv μ0 a c pm := by
 obtain ⟨f, caps, h1, d, g⟩ := h
 exact ⟨f, caps, h1, d, fun W x r h => g W x r (i.trans h)⟩
theorem Ip.form {α β : Type} {P : Program} {fv : Value} {μ : lm} {c : α → List Value} {d : β → Value} {pm : α → Option β} (h : Ip P fv μ c d pm) : ∃ f a b, fv = .func f a b := let ⟨f, b, h, _⟩ := h; ⟨_, _, b, h⟩
theorem XV {P : Program} {E : Nat → Value} {d : Option Nat} {ty : TypeId} {pos : String} {af : Array Edge} {g : Option (Nat × Bool)} {F : Nat → Prop} {w W : World} {μ μ0 : lm} {L : List (Nat × Obj)} {dd : Bool} {α β : Type} {K : Value → World → Prop} {fv : Value} {c : α → List Value} {k : β → Value} {pm : α → Option β} {i : Operand} {ax : Array Operand} {ats : Array TypeId} (x : α) {r : β} (a : ST dd F w W μ L) (s : Ip P fv μ0 c k pm) (u : kY μ0 μ) (t : kG E i = fv) (ha : ax.map (kG E) ++ (#[] : Array Value) = (c x).toArray) (hm : pm x = some r) (h : ∀ W', ST dd F w W' μ L → K (k r) W') : nH P E ⟨d, .call ⟨.value i, ax, ats⟩, ty, pos, af, g⟩ W K := by
 obtain ⟨f, caps, rfl, m, n⟩ := s
 have j : ax.map (kG E) = (c x).toArray := by simpa using ha
 refine .inr (.inr ⟨f, (c x ++ caps.toList).toArray, ?_, cH ((n W x r (u.trans a.kJ) hm).mn (dd := dd)) (fun _ _ ⟨o, q⟩ => ⟨_, o, h _ (a.HP q)⟩)⟩)
 show (do let d ← resolve (kG E) ⟨.value i, ax, ats⟩ ty; invoke d.target d.args : Sem Next).run P W = _
 simp only [resolve, t, Deferred.ofValue, cd, da, bK, invoke, j, m]
 congr 2
 simp
def Je {S : Type} (rd : S → List Int) : Int ⊕ S → Int
 | .inl x => x
 | .inr r => if (rd r).length > 0 then 13 else 0
def QA (P : Program) (fn : Func) (R : Ending → World → Prop) : oD
 | .normal, E, W | .ret, E, W => ∃ v, (∀ tmps : Array Value, (∀ t, tmps.getD t undef = E t) → (results fn tmps).run P W = .ok v W) ∧ R (.returned v) W
 | .panic c, _, W => R (.panicked c) W
 | _, _, _ => False
theorem wq {P : Program} {fn : Func} {R : Ending → World → Prop} {E : Nat → Value} {W : World} (h : yL P fn R .ret E W) : QA P fn R .ret E W := h
theorem qV {P : Program} {f : FuncId} {fn : Func} {c : Code} {args : List Value} {w : World} {R : Ending → World → Prop} {n : Nat} (q : P.funcs[f]? = some fn) (o : fn.body = some c) (s : fn.ntmps = n) (ha : args.length ≤ n) (h : CW P n c (QA P fn R) (yu args) w) : Calls P f args.toArray w R := by
 refine calls_of_wp q o ?_
 have j : Ag n { tmps := args.toArray ++ Array.replicate (fn.ntmps - args.toArray.size) undef, defers := [] } (yu args) := by
  refine ⟨by simp; omega, rfl, fun t => ?_⟩
  simp only [yu, cW, fL, fB, ga, cM, fC]
  by_cases m : t < args.length
  ·rw [aM m]
  ·rw [aK m, cR (by omega)]
   split <;> simp
 refine gd (h _ j) (fun e a u g => ?_)
 cases e with
 | normal =>
  obtain ⟨E, d, v, k, i⟩ := g
  exact ⟨d.2.1, v, k _ d.2.2, i⟩
 | ret =>
  obtain ⟨E, d, v, k, i⟩ := g
  exact ⟨d.2.1, v, k _ d.2.2, i⟩
 | exit id => obtain ⟨E, d, h⟩ := g; exact h.elim
 | goto l => obtain ⟨E, d, h⟩ := g; exact h.elim
 | panic c => exact g
 | outgrown => exact g.elim
def MK (P : Program) (E : Nat → Value) (o : Oper) (W : World) (X : List PanicEntry → World → Prop) : Prop :=
 (∃ v W', (execOp (kG E) o).run P W = .halt (.panic v) W' ∧ X [{ v := v, recovered := false }] W') ∨
 (∃ f args, (execOp (kG E) o).run P W = .ok (.enter f args) W ∧ Calls P f args W fun e a => ∃ c, e = .panicked c ∧ X c a)
theorem MK.wp {P : Program} {n : Nat} {E : Nat → Value} {o : Oper} {W : World} {X : List PanicEntry → World → Prop} (h : MK P E o W X) {a : Act} (ha : Ag n a E) {K : Exit → Act → World → Prop} {J : Act → World → Prop} (hk : ∀ c w, X c w → K (.panic c) a w) : o.wp P a W J K := by
 unfold Oper.wp
 rw [ha.eval]
 rcases h with ⟨v, W', h1, d⟩ | ⟨f, args, h1, d⟩
 ·rw [h1]; exact hk _ _ d
 ·rw [h1, dU]
  refine cH d ?_
  rintro e i ⟨c, rfl, g⟩
  exact hk _ _ g
section
variable {P : Program} {n : Nat} {Q : oD} {E : Nat → Value} {W : World} {ops : Array Oper} {rest : List Oper} {S : Array Bool → World → Prop} {fuel : Nat} {listed : Array Bool}
theorem rX {o : Oper} (hw : mA n ops E o) (h : MK P E o W fun c w => Q (.panic c) E0 w) : LW P n ops Q (o :: rest) E W := fun a ha => by
 unfold wpList
 rw [aM (hw.of ha)]
 refine .inl ?_
 exact h.wp ha (fun c w d => ⟨ha.2.1, d⟩)
theorem Wl {o : Oper} (i : Nat) (m : ops[i]? = some o) (d : Region.ready .any ops listed = [i]) (hw : mA n ops E o) (h : MK P E o W fun c w => Q (.panic c) E0 w) : PX P n ops Q S (fuel + 1) listed E W := fun s a ha => by
 refine ⟨fun k => (by rw [k] at d; cases d), fun j g => ?_⟩
 rw [d] at g
 obtain rfl := aO.1 g
 unfold wpOp
 simp only [m]
 rw [aM (hw.of ha)]
 refine .inl ?_
 exact h.wp ha (fun c w q => ⟨ha.2.1, q⟩)
end
def nh {R : Type} (dd : Bool) (w : World) (μ0 : lm) (L0 : List (Nat × Obj)) (s : Int ⊕ R) (K : R → Value → List (Nat × Obj) → lm → Prop) (X : Int → List PanicEntry → List (Nat × Obj) → lm → Prop) : Ending → World → Prop := fun e a =>
 match s with
 | .inl x => ∃ c L1 μ1, e = .panicked c ∧ sG dd L0 L1 w a ∧ kY μ0 μ1 ∧ Lo (keys L0) w μ0 μ1 ∧ kY μ1 (sH a L1) ∧ X x c L1 μ1
 | .inr r => ∃ v L1 μ1, e = .returned v ∧ sG dd L0 L1 w a ∧ kY μ0 μ1 ∧ Lo (keys L0) w μ0 μ1 ∧ kY μ1 (sH a L1) ∧ K r v L1 μ1
def Hg (dd : Bool) (P : Program) (f : FuncId) (args : List Value) (w : World) (μ0 : lm) (L0 : List (Nat × Obj)) (X : List PanicEntry → List (Nat × Obj) → lm → Prop) : Prop :=
 Calls P f args.toArray w fun e a => ∃ c L1 μ1, e = .panicked c ∧ sG dd L0 L1 w a ∧ kY μ0 μ1 ∧ Lo (keys L0) w μ0 μ1 ∧ kY μ1 (sH a L1) ∧ X c L1 μ1
def lM {R : Type} (dd : Bool) (P : Program) (f : FuncId) (args : List Value) (w : World) (μ0 : lm) (L0 : List (Nat × Obj)) (s : Int ⊕ R) (K : R → Value → List (Nat × Obj) → lm → Prop) (X : Int → List PanicEntry → List (Nat × Obj) → lm → Prop) : Prop :=
 Calls P f args.toArray w (nh dd w μ0 L0 s K X)
theorem lM.r {R : Type} {dd : Bool} {P : Program} {f : FuncId} {args : List Value} {w : World} {μ0 : lm} {L0 : List (Nat × Obj)} {r : R} {K : R → Value → List (Nat × Obj) → lm → Prop} {X : Int → List PanicEntry → List (Nat × Obj) → lm → Prop} (h : lM dd P f args w μ0 L0 (.inr r) K X) : pg dd P f args w μ0 L0 (K r) := h
theorem lM.l {R : Type} {dd : Bool} {P : Program} {f : FuncId} {args : List Value} {w : World} {μ0 : lm} {L0 : List (Nat × Obj)} {x : Int} {K : R → Value → List (Nat × Obj) → lm → Prop} {X : Int → List PanicEntry → List (Nat × Obj) → lm → Prop} (h : lM dd P f args w μ0 L0 (.inl x : Int ⊕ R) K X) : Hg dd P f args w μ0 L0 (X x) := h
theorem nt {K : (Nat → Value) → World → Prop} {Q : oD} {c : List PanicEntry} {E : Nat → Value} {W : World} (h : Q (.panic c) E W) : qG K Q (.panic c) E W := h
theorem xl {id : Nat} {Q : oD} {c : List PanicEntry} {E : Nat → Value} {W : World} (h : Q (.panic c) E W) : xW id Q (.panic c) E W := h
theorem pd {P : Program} {fn : Func} {R : Ending → World → Prop} {c : List PanicEntry} {E : Nat → Value} {W : World} (h : R (.panicked c) W) : QA P fn R (.panic c) E W := h
section
variable {P : Program} {W : World} {E : Nat → Value} {d : Option Nat} {ty : TypeId} {pos : String} {af : Array Edge} {g : Option (Nat × Bool)} {F : Nat → Prop} {w : World} {μ : lm} {L : List (Nat × Obj)} {dd : Bool}
theorem nQ {X : List PanicEntry → World → Prop} {X' : List PanicEntry → List (Nat × Obj) → lm → Prop} {f : FuncId} {fv : Operand} {ax : Array Operand} {ats : Array TypeId} {caps : Array Value} {args : List Value} (L0 L2 : List (Nat × Obj)) (a : ST dd F w W μ L) (i : L.Perm (L0 ++ L2)) (z : kG E fv = .func (.func f) #[] caps) (he : ∀ args w, (callFunc f args).run P w = .ok (.enter f args) w) (ha : ax.map (kG E) ++ (#[] : Array Value) = args.toArray) (y : EU L0 W → (L0.map (·.1)).Nodup → kY μ (sH W L0) → (∀ b o, (b, o) ∈ L2 → sH W L0 b = some o) → Hg dd P f (args ++ caps.toList) W μ L0 X') (h : ∀ W' c μ' L1, ST dd F w W' μ' (L1 ++ L2) → kY μ μ' → Lo F w μ μ' → X' c L1 μ' → X c W') : MK P E ⟨d, .call ⟨.value fv, ax, ats⟩, ty, pos, af, g⟩ W X := by
 have j : ax.map (kG E) = args.toArray := by simpa using ha
 refine .inr ⟨f, (args ++ caps.toList).toArray, Li z he (by rw [j]; simp), cH (y (a.held i) (a.Tj i) (a.TM i) (a.KE i)) (fun _ W' ⟨v, L1, μ1, h1, m, n, k, s, t⟩ => ⟨v, h1, h W' v μ1 L1 ((a.perm i).T8 m k s) n (fun b x u => k b (cO x a.size) (fun ⟨o, A⟩ => by
  rcases ((a.perm i).box b o (bI _ A)).2.2 with q | q
  ·omega
  ·exact u q)) t⟩)⟩
end
section
variable {P : Program} {W : World} {E : Nat → Value} {d : Option Nat} {ty : TypeId} {pos : String} {af : Array Edge} {g : Option (Nat × Bool)}
def xK (t : TypeId) (b : Nat) (x : Int) : Value := .iface t (.agg #[.pointer (some ⟨b, 0, none⟩), .int .i64 x])
theorem U9 {t : TypeId} {x : Operand} {v : Value} {u : TypeDesc} (a : P.underlying t = some u) (hu : ∀ q, u ≠ .interface q) (c : kG E x = v) : mw P E ⟨d, .makeInterface t x, ty, pos, af, g⟩ W (.iface t v) W := by
 show (do let r ← Instr.makeInterface t (kG E x); pure (.value r) : Sem Next).run P W = _
 rw [c]
 unfold Instr.makeInterface
 simp only [cd, aQ a, bK]
 cases u <;> simp_all
theorem UN {X : List PanicEntry → World → Prop} {x : Operand} {t : TypeId} {v : Value} (a : kG E x = .iface t v) (h : X [{ v := .iface t v, recovered := false }] W) : MK P E ⟨d, .panic x, ty, pos, af, g⟩ W X := by
 refine .inl ⟨.iface t v, W, ?_, h⟩
 show (do let r ← Instr.panic (kG E x); pure (.value r) : Sem Next).run P W = _
 rw [a]
 simp [Instr.panic]
end
theorem nh.li {R : Type} {dd : Bool} {w : World} {μ0 : lm} {L0 : List (Nat × Obj)} {x : Int} {K : R → Value → List (Nat × Obj) → lm → Prop} {X : Int → List PanicEntry → List (Nat × Obj) → lm → Prop} {e : Ending} {a : World} (h : ∃ c L1 μ1, e = .panicked c ∧ sG dd L0 L1 w a ∧ kY μ0 μ1 ∧ Lo (keys L0) w μ0 μ1 ∧ kY μ1 (sH a L1) ∧ X x c L1 μ1) : nh dd w μ0 L0 (.inl x : Int ⊕ R) K X e a := h
theorem nh.ri {R : Type} {dd : Bool} {w : World} {μ0 : lm} {L0 : List (Nat × Obj)} {r : R} {K : R → Value → List (Nat × Obj) → lm → Prop} {X : Int → List PanicEntry → List (Nat × Obj) → lm → Prop} {e : Ending} {a : World} (h : ∃ v L1 μ1, e = .returned v ∧ sG dd L0 L1 w a ∧ kY μ0 μ1 ∧ Lo (keys L0) w μ0 μ1 ∧ kY μ1 (sH a L1) ∧ K r v L1 μ1) : nh dd w μ0 L0 (.inr r : Int ⊕ R) K X e a := h
theorem PZ {P : Program} {fn : Func} {R : Ending → World → Prop} {E : Nat → Value} {W : World} (h : yL P fn R .normal E W) : QA P fn R .normal E W := h
theorem Hg.mn {dd : Bool} {P : Program} {f : FuncId} {args : List Value} {w : World} {μ0 : lm} {L0 : List (Nat × Obj)} {X : List PanicEntry → List (Nat × Obj) → lm → Prop} (h : Hg true P f args w μ0 L0 X) : Hg dd P f args w μ0 L0 X :=
 cH h fun _ _ ⟨v, L1, μ1, h1, a, c⟩ => ⟨v, L1, μ1, h1, a.mn, c⟩
def Ey (D : List Deferred) (n : Nat) (a : Act) (E : Nat → Value) : Prop := a.tmps.size = n ∧ a.defers = D ∧ ∀ t, a.tmps.getD t undef = E t
section
variable {D : List Deferred} {n : Nat} {a : Act} {E : Nat → Value}
theorem Ey.eval (h : Ey D n a E) : a.eval = kG E := by
 funext x
 cases x with
 | tmp t => exact h.2.2 t
 | const v => rfl
 | global g => rfl
 | func f => rfl
theorem Ey.put (h : Ey D n a E) {d : Nat} (i : d < n) (v : Value) : Ey D n (a.put (some d) v) (nA E d v) := by
 refine ⟨by simp [Act.put, h.1], h.2.1, fun t => ?_⟩
 have g := h.2.2 t
 simp only [Act.put, nA]
 by_cases c : t = d
 ·subst c
  simp [h.1, i]
 ·have : ¬ d = t := fun e => c e.symm
  rw [aK c, ← g]
  simp [cW, this]
theorem Ey.xa (h : Ey D n a E) (v : Value) : Ey D n (a.put none v) E := h
theorem Ey.yield (h : Ey D n a E) {ops : Array Oper} {j t : Nat} {b : Bool} (d : (ops[j]?).bind (·.dst) = some t) (i : t < n) (k : E t = .bool b) : yielded ops a.tmps j = some b := by
 have c := h.2.2 t
 have g : a.tmps[t]? = some (E t) := by
  rw [← c]
  simp [cW, h.1, i]
 simp [yielded, d, g, k]
end
def Q8 (D : List Deferred) (n : Nat) (Q : oD) : Exit → Act → World → Prop
 | .panic c, a, w => a.defers = D ∧ a.tmps.size = n ∧ Q (.panic c) (fun t => a.tmps.getD t undef) w
 | .outgrown, _, _ => False
 | e, a, w => ∃ E, Ey D n a E ∧ Q e E w
def Gs (D : List Deferred) (P : Program) (n : Nat) (c : Code) (Q : oD) (E : Nat → Value) (W : World) : Prop := ∀ a, Ey D n a E → c.wp P (Q8 D n Q) a W
def Dw (D : List Deferred) (P : Program) (n : Nat) (ops : Array Oper) (Q : oD) (l : List Oper) (E : Nat → Value) (W : World) : Prop := ∀ a, Ey D n a E → wpList P ops (Q8 D n Q) l a W
section
variable {D : List Deferred} {P : Program} {n : Nat} {Q : oD} {E : Nat → Value} {W : World} {c x y : Code} {ops : Array Oper} {rest : List Oper} {o : Oper}
theorem Dc (h : Gs D P n x (qG (fun E W => Gs D P n y Q E W) Q) E W) : Gs D P n (.seq x y) Q E W := fun a ha =>
 wp_seq (gd (h a ha) (fun e d i h => by
  cases e with
  | normal => obtain ⟨E', c, g⟩ := h; exact g d c
  | _ => exact h))
theorem Tw (h : Q .normal E W) : Gs D P n .skip Q E W := fun _ ha => wp_skip ⟨E, ha, h⟩
theorem PM (h : Q .ret E W) : Gs D P n .ret Q E W := fun _ ha => wp_ret ⟨E, ha, h⟩
theorem SH {co : Operand} {b : Bool} (c : kG E co = .bool b) (g : b = true → Gs D P n x Q E W) (d : b = false → Gs D P n y Q E W) : Gs D P n (.cond co x y) Q E W := fun a ha => by
 refine wp_cond_split (t := b) (by rw [ha.eval]; exact c) (fun h => g h a ha) (fun h => d h a ha)
theorem Ou {co : Operand} (a : kG E co = .bool true) (h : Gs D P n x Q E W) : Gs D P n (.cond co x y) Q E W := SH a (fun _ => h) (fun h => by cases h)
theorem Bp {id : Nat} {l : List Oper} (h : Dw D P n l.toArray Q l E W) : Gs D P n (.region id l.toArray false) Q E W := fun a ha => wp_region_lit (h a ha)
theorem Fc (h : Q .normal E W) : Dw D P n ops Q [] E W := fun _ ha => wpList_nil ⟨E, ha, h⟩
theorem mA.NN {a : Act} (h : mA n ops E o) (ha : Ey D n a E) : Region.wanted o (yielded ops a.tmps) = true := by
 rcases h with h | ⟨j, want, t, d, g, i, c⟩
 ·simp [Region.wanted, h]
 ·simp [Region.wanted, d, ha.yield g i c]
theorem OY {d : Nat} {v : Value} {W' : World} (hw : mA n ops E o) (c : o.dst = some d) (g : d < n) (i : (execOp (kG E) o).run P W = .ok (.value v) W') (h : Dw D P n ops Q rest (nA E d v) W') : Dw D P n ops Q (o :: rest) E W := fun a ha => by
 unfold wpList
 rw [aM (hw.NN ha)]
 refine .inl ?_
 unfold Oper.wp
 rw [ha.eval, i, dT, c]
 exact h _ (ha.put g v)
theorem RF {W' : World} (hw : mA n ops E o) (c : o.dst = none) (d : (execOp (kG E) o).run P W = .ok .skip W') (h : Dw D P n ops Q rest E W') : Dw D P n ops Q (o :: rest) E W := fun a ha => by
 unfold wpList
 rw [aM (hw.NN ha)]
 refine .inl ?_
 unfold Oper.wp
 rw [ha.eval, d, fc, c]
 exact h _ (ha.xa _)
theorem RJ {f : FuncId} {args : Array Value} {d : Nat} (hw : mA n ops E o) (g : o.dst = some d) (j : d < n) (k : (execOp (kG E) o).run P W = .ok (.enter f args) W) (h : Calls P f args W fun e c => ∃ v, e = .returned v ∧ Dw D P n ops Q rest (nA E d v) c) : Dw D P n ops Q (o :: rest) E W := fun a ha => by
 unfold wpList
 rw [aM (hw.NN ha)]
 refine .inl ?_
 unfold Oper.wp
 rw [ha.eval, k, dU]
 refine h.mono ?_
 rintro e c ⟨v, rfl, i⟩
 simp only [g]
 exact i _ (ha.put j v)
theorem Yn {o : Oper} {dd : Nat} (hw : mA n ops E o) (d : o.dst = some dd) (g : dd < n) (h : nH P E o W fun v W' => Dw D P n ops Q rest (nA E dd v) W') : Dw D P n ops Q (o :: rest) E W := by
 rcases h with ⟨v, W', h1, c⟩ | ⟨W', h1, c⟩ | ⟨f, args, h1, c⟩
 ·exact OY hw d g h1 c
 ·intro a ha
  unfold wpList
  rw [aM (hw.NN ha)]
  refine .inl ?_
  unfold Oper.wp
  rw [ha.eval, h1, fc, d]
  exact c _ (ha.put g _)
 ·exact RJ hw d g h1 c
theorem Sw {o : Oper} (hw : mA n ops E o) (d : o.dst = none) (h : nH P E o W fun _ W' => Dw D P n ops Q rest E W') : Dw D P n ops Q (o :: rest) E W := by
 rcases h with ⟨v, W', h1, c⟩ | ⟨W', h1, c⟩ | ⟨f, args, h1, c⟩
 ·intro a ha
  unfold wpList
  rw [aM (hw.NN ha)]
  refine .inl ?_
  unfold Oper.wp
  rw [ha.eval, h1, dT, d]
  exact c _ (ha.xa _)
 ·exact RF hw d h1 c
 ·intro a ha
  unfold wpList
  rw [aM (hw.NN ha)]
  refine .inl ?_
  unfold Oper.wp
  rw [ha.eval, h1, dU]
  refine cH c ?_
  rintro e i ⟨v, rfl, g⟩
  simp only [d]
  exact g _ (ha.xa _)
theorem BT {dd : Nat} {v : Value} (hw : mA n ops E o) (a : o.dst = some dd) (c : dd < n) (d : mw P E o W v W) (h : Dw D P n ops Q rest (nA E dd v) W) : Dw D P n ops Q (o :: rest) E W := OY hw a c d h
theorem Yh (hw : mA n ops E o) (h : MK P E o W fun c w => ∀ E', (∀ t, E' t = E t) → Q (.panic c) E' w) : Dw D P n ops Q (o :: rest) E W := fun a ha => by
 unfold wpList
 rw [aM (hw.NN ha)]
 refine .inl ?_
 unfold Oper.wp
 rw [ha.eval]
 rcases h with ⟨v, W', h1, d⟩ | ⟨f, args, h1, d⟩
 ·rw [h1]; exact ⟨ha.2.1, ha.1, d _ ha.2.2⟩
 ·rw [h1, dU]
  refine cH d ?_
  rintro e i ⟨c, rfl, g⟩
  exact ⟨ha.2.1, ha.1, g _ ha.2.2⟩
end
section
variable {P : Program} {n : Nat} {E : Nat → Value} {W : World} {c y : Code} {a : Act} {cs : List Frame} {Q : Exit → Act → List Frame → World → Prop}
theorem XA (h : CW P n c (fun e E W => e = .normal ∧ ∀ a, Ag n a E → y.wpS P Q a cs W) E W) (ha : Ag n a E) : (Code.seq c y).wpS P Q a cs W :=
 wpS_seq (wpS_of_wp (gd (h a ha) (fun e g j h => by
  cases e with
  | normal => obtain ⟨E', d, _, i⟩ := h; exact i g d
  | panic c => exact absurd h.2.1 (by simp)
  | outgrown => exact h.elim
  | _ => obtain ⟨E', d, h1, _⟩ := h; cases h1)))
theorem Pk {fn : Func} {g : Frame} {j : List Frame} {R : Ending → FrameMode → World → Prop} {u : FrameMode} (k : fn.results = #[]) (h : CW P n c (fun e E W => (e = .normal ∨ e = .ret) ∧ R (.returned (.tuple #[])) u W) E W) (ha : Ag n a E) : c.wpS P (bodyPostS P fn g j R) a ({ g with mode := u } :: j) W :=
 wpS_of_wp (gd (h a ha) (fun e m o h => by
  cases e with
  | normal => obtain ⟨E', d, _, i⟩ := h; exact ⟨d.2.1, u, rfl, .tuple #[], results_none k _ _ _, i⟩
  | ret => obtain ⟨E', d, _, i⟩ := h; exact ⟨d.2.1, u, rfl, .tuple #[], results_none k _ _ _, i⟩
  | panic c => rcases h.2.1 with h | h <;> cases h
  | outgrown => exact h.elim
  | _ => obtain ⟨E', d, h1, _⟩ := h; rcases h1 with h | h <;> cases h))
theorem Iq {id d d2 : Nat} {c g : Oper} {cs' : List Frame} {v : Value} (o : d < n) (m : d2 < n) (h1 : c.guard = none) (q : g.guard = none) (j : c.dst = some d) (k : g.dst = some d2) (t : ∀ a : Act, (execOp a.eval c).run P W = .ok .recover W) (hm : ∀ E : Nat → Value, E d = v → mw P E g W v W) (i : recoverD cs = some (v, cs') ∨ recoverD cs = none ∧ v = .nilIface ∧ cs' = cs) (ha : Ag n a E) (h : ∀ a, Ag n a (nA (nA E d v) d2 v) → Q .normal a cs' W) : (Code.region id #[c, g] false).wpS P Q a cs W := by
 refine wpS_region ?_
 have s : List.range (#[c, g] : Array Oper).size = [0, 1] := rfl
 rw [s]
 have key : ∀ a : Act, Ag n a (nA E d v) → wpOpsS P #[c, g] Q [1] a cs' W := fun a ha => by
  unfold wpOpsS
  simp only [show (#[c, g] : Array Oper)[1]? = some g from rfl]
  rw [aM (by simp [Region.wanted, q])]
  have := hm (nA E d v) (by simp [nA])
  unfold mw at this
  rw [ha.eval, this]
  simp only [dT, k]
  unfold wpOpsS
  exact h _ (ha.put m v)
 unfold wpOpsS
 simp only [show (#[c, g] : Array Oper)[0]? = some c from rfl]
 rw [aM (by simp [Region.wanted, h1]), t]
 simp only
 rcases i with i | ⟨i, rfl, rfl⟩
 ·rw [i]
  simp only [j]
  exact key _ (ha.put o v)
 ·rw [i]
  simp only [j]
  exact key _ (ha.put o _)
theorem NF {args : List Value} {fn : Func} {n : Nat} (c : fn.ntmps = n) (h : args.length ≤ n) : Ag n { tmps := args.toArray ++ Array.replicate (fn.ntmps - args.toArray.size) undef, defers := [] } (yu args) := by
 refine ⟨by simp; omega, rfl, fun t => ?_⟩
 simp only [yu, cW, fL, fB, ga, cM, fC]
 by_cases a : t < args.length
 ·rw [aM a]
 ·rw [aK a, cR (by omega)]
  split <;> simp
end
section
variable {P : Program} {E : Nat → Value} {W : World} {d : Option Nat} {x y : Operand} {tx tv ty : TypeId} {pos : String} {af : Array Edge} {g : Option (Nat × Bool)} {ms : List (String × TypeId)}
theorem Kx {t tx : TypeId} {q} {v : Value} (dd : Nat) (a : P.underlying tx = some (.interface q)) (W : World) : (Op.equalIn (dd + 1) tx (.iface t v) .nilIface).run P W = .ok false W := by
 simp [Op.equalIn, aQ a]
theorem JY {tx : TypeId} {q} (dd : Nat) (a : P.underlying tx = some (.interface q)) (W : World) : (Op.equalIn (dd + 1) tx .nilIface .nilIface).run P W = .ok true W := by
 simp [Op.equalIn, aQ a]
theorem IF {tx e : TypeId} {k : Nat} {p : Addr} (dd : Nat) (c : P.underlying tx = some (.pointer e)) (a : ∀ w, (sizeOf e).run P w = .ok (k + 1) w) (W : World) : (Op.equalIn (dd + 1) tx (.pointer (some p)) (.pointer (some p))).run P W = .ok true W := by
 simp [Op.equalIn, aQ c, a W, run_sameAddr_same]
theorem VW {q} {t : TypeId} {v : Value} (c : P.underlying tx = some (.interface q)) (h : kG E x = .iface t v) (i : kG E y = .nilIface) : mw P E ⟨d, .binOp .eql tx x y tv, ty, pos, af, g⟩ W (.bool false) W := by
 show (do let r ← (do eqGuard .eql tx x y (kG E x) (kG E y); binOp .eql tx (kG E x) (kG E y)); pure (.value r) : Sem Next).run P W = _
 rw [h, i]
 have a := Kx (t := t) (v := v) 9999 c W
 simp [eqGuard, binOp, Op.equal, Op.maxDepth, a]
theorem Vs {q} {v : Value} (c : P.underlying tx = some (.interface q)) (h : kG E x = .nilIface) (i : kG E (.const v) = .nilIface) : mw P E ⟨d, .binOp .eql tx x (.const v) tv, ty, pos, af, g⟩ W (.bool true) W := by
 show (do let r ← (do eqGuard .eql tx x (.const v) (kG E x) (kG E (.const v)); binOp .eql tx (kG E x) (kG E (.const v))); pure (.value r) : Sem Next).run P W = _
 rw [h, i]
 have a := JY 9999 c W
 simp [eqGuard, binOp, Op.equal, Op.maxDepth, a]
theorem OH {e : TypeId} {k : Nat} {p : Addr} (h : P.underlying tx = some (.pointer e)) (c : ∀ w, (sizeOf e).run P w = .ok (k + 1) w) (i : kG E x = .pointer (some p)) (j : kG E y = .pointer (some p)) : mw P E ⟨d, .binOp .neq tx x y tv, ty, pos, af, g⟩ W (.bool false) W := by
 show (do let r ← (do eqGuard .neq tx x y (kG E x) (kG E y); binOp .neq tx (kG E x) (kG E y)); pure (.value r) : Sem Next).run P W = _
 rw [i, j]
 have a := IF (p := p) 9999 h c W
 simp [eqGuard, binOp, Op.equal, Op.maxDepth, a]
theorem Qt {t : TypeId} {v : Value} {u : TypeDesc} (a : P.underlying t = some u) (hu : ∀ q, u ≠ .interface q) (c : kG E x = .iface t v) : mw P E ⟨d, .typeAssert x tx t true, ty, pos, af, g⟩ W (.tuple #[v, .bool true]) W := by
 show (do let r ← Instr.typeAssert (kG E x) tx t true; pure (.value r) : Sem Next).run P W = _
 rw [c]
 unfold Instr.typeAssert
 simp only [cd, aQ a, bK]
 cases u <;> simp_all
end
def Uq (n : Nat) (Q : List Deferred → oD) (e : Exit) (a : Act) (w : World) : Prop := ∃ D, Q8 D n (Q D) e a w
def Ps (P : Program) (n : Nat) (c : Code) (Q : List Deferred → oD) (E : Nat → Value) (W : World) : Prop := ∀ a, Ag n a E → c.wp P (Uq n Q) a W
def Uf (P : Program) (n : Nat) (ops : Array Oper) (Q : List Deferred → oD) (l : List Oper) (E : Nat → Value) (W : World) : Prop := ∀ a, Ag n a E → wpList P ops (Uq n Q) l a W
def XN (P : Program) (fn : Func) (R : Ending → World → Prop) (D : List Deferred) : oD
 | .normal, E, W | .ret, E, W => ∀ tmps : Array Value, (∀ t, tmps.getD t undef = E t) → Leaves P fn tmps R D .returning W
 | .panic c, E, W => ∀ tmps : Array Value, (∀ t, tmps.getD t undef = E t) → Leaves P fn tmps R D (.panicking c) W
 | _, _, _ => False
section
variable {P : Program} {n : Nat} {Q : List Deferred → oD} {E : Nat → Value} {W : World} {c x y : Code} {ops : Array Oper} {rest : List Oper} {o : Oper}
theorem Pq (h : CW P n x (fun e E W => e = .normal ∧ Ps P n y Q E W) E W) : Ps P n (.seq x y) Q E W := fun a ha =>
 wp_seq (gd (h a ha) (fun e g j h => by
  cases e with
  | normal => obtain ⟨E', d, _, i⟩ := h; exact i g d
  | panic c => exact absurd h.2.1 (by simp)
  | outgrown => exact h.elim
  | _ => obtain ⟨E', d, h1, _⟩ := h; cases h1))
theorem Xw (h : Ps P n x (fun D => qG (fun E W => Gs D P n y (Q D) E W) (Q D)) E W) : Ps P n (.seq x y) Q E W := fun a ha =>
 wp_seq (gd (h a ha) (fun e d i ⟨D, h⟩ => by
  cases e with
  | normal => obtain ⟨E', c, g⟩ := h; exact gd (g d c) (fun e a w h => ⟨D, h⟩)
  | _ => exact ⟨D, h⟩))
theorem QB {id : Nat} {l : List Oper} (h : Uf P n l.toArray Q l E W) : Ps P n (.region id l.toArray false) Q E W := fun a ha => wp_region_lit (h a ha)
theorem Yj {dd : Nat} {v : Value} (hw : mA n ops E o) (d : o.dst = some dd) (g : dd < n) (c : mw P E o W v W) (h : Uf P n ops Q rest (nA E dd v) W) : Uf P n ops Q (o :: rest) E W := fun a ha => by
 unfold wpList
 rw [aM (hw.of ha)]
 refine .inl ?_
 unfold Oper.wp
 unfold mw at c
 rw [ha.eval, c, dT, d]
 exact h _ (ha.put g v)
theorem Rs {d : Deferred} (hw : mA n ops E o) (c : o.dst = none) (g : (execOp (kG E) o).run P W = .ok (.defer d) W) (h : Q [d] .normal E W) : Uf P n ops Q [o] E W := fun a ha => by
 unfold wpList
 rw [aM (hw.of ha)]
 refine .inl ?_
 unfold Oper.wp
 rw [ha.eval, g, Oper.upon_defer, c]
 exact wpList_nil ⟨[d], E, ⟨ha.1, by simp [Act.put, ha.2.1], ha.2.2⟩, h⟩
theorem N9 {f : FuncId} {fn : Func} {c : Code} {args : List Value} {w : World} {R : Ending → World → Prop} (j : P.funcs[f]? = some fn) (i : fn.body = some c) (k : fn.ntmps = n) (ha : args.length ≤ n) (h : Ps P n c (fun D => XN P fn R D) (yu args) w) : Calls P f args.toArray w R := by
 refine calls_of_wp_defers j i (gd (h _ (NF k ha)) (fun e a m ⟨D, g⟩ => ?_))
 cases e with
 | normal => obtain ⟨E, d, h⟩ := g; show Leaves _ _ _ _ a.defers _ _; rw [d.2.1]; exact h _ d.2.2
 | ret => obtain ⟨E, d, h⟩ := g; show Leaves _ _ _ _ a.defers _ _; rw [d.2.1]; exact h _ d.2.2
 | exit id => obtain ⟨E, d, h⟩ := g; exact h.elim
 | goto l => obtain ⟨E, d, h⟩ := g; exact h.elim
 | panic c => show Leaves _ _ _ _ a.defers _ _; rw [g.1]; exact g.2.2 _ (fun _ => rfl)
 | outgrown => exact g.elim
theorem RO {d : Option Nat} {ty : TypeId} {pos : String} {af : Array Edge} {g : Option (Nat × Bool)} {f : FuncId} {fv : Operand} {ax : Array Operand} {ats : Array TypeId} {caps : Array Value} {args : List Value} (c : kG E fv = .func (.func f) #[] caps) (ha : ax.map (kG E) ++ (#[] : Array Value) = args.toArray) : (execOp (kG E) ⟨d, .defer ⟨.value fv, ax, ats⟩, ty, pos, af, g⟩).run P W = .ok (.defer ⟨.fn (.func f) caps, args.toArray⟩) W := by
 show (do pure (.defer (← resolve (kG E) ⟨.value fv, ax, ats⟩ ty)) : Sem Next).run P W = _
 have a : ax.map (kG E) = args.toArray := by simpa using ha
 simp [resolve, Deferred.ofValue, c, a]
theorem M2 {fn : Func} {R : Ending → World → Prop} {k : FuncId} {ax : Array Value} {u : FrameMode} {X : World → Prop} (hu : u ≠ .run) (he : ∀ args w, (callFunc k args).run P w = .ok (.enter k args) w) (c : CallsD P k ax u W fun e a W' => e = .returned (.tuple #[]) ∧ settle a = .returning ∧ X W') (h : ∀ W', X W' → yL P fn R .ret E W') (tmps : Array Value) (i : ∀ t, tmps.getD t undef = E t) : Leaves P fn tmps R [⟨.fn (.func k) #[], ax⟩] u W :=
 leaves_cons hu (by simp [invoke, he]) (CallsD.mono c (by
  rintro e a W' ⟨rfl, g, m⟩
  obtain ⟨v, j, d⟩ := h W' m
  show Leaves _ _ _ _ [] (settle a) _
  rw [g]
  exact ⟨v, j _ i, d⟩))
end
theorem uj.form {κ γ : Type} {kenc : κ → Value} {Q : Value → γ → List (Nat × Obj) → Prop} {μ : lm} {v : Value} {l : List (κ × γ)} (h : uj kenc Q μ v l) : ∃ m, v = .map m := by
 obtain ⟨a, R, h, _⟩ := h
 obtain ⟨m, rfl⟩ := h.form
 exact ⟨_, rfl⟩
def UB (dd : Bool) (w : World) (μ0 : lm) (L0 : List (Nat × Obj)) (K : Value → List (Nat × Obj) → lm → Prop) : Ending → World → Prop := fun e a => ∃ v L1 μ1, e = .returned v ∧ sG dd L0 L1 w a ∧ kY μ0 μ1 ∧ Lo (keys L0) w μ0 μ1 ∧ kY μ1 (sH a L1) ∧ K v L1 μ1
theorem R5 {dd : Bool} {P : Program} {f : FuncId} {args : List Value} {w : World} {μ0 : lm} {L0 : List (Nat × Obj)} {K : Value → List (Nat × Obj) → lm → Prop} (h : Calls P f args.toArray w (UB dd w μ0 L0 K)) : pg dd P f args w μ0 L0 K := h
theorem pg.mono {dd : Bool} {P : Program} {f : FuncId} {args : List Value} {w : World} {μ0 : lm} {L0 : List (Nat × Obj)} {K K' : Value → List (Nat × Obj) → lm → Prop} (h : pg dd P f args w μ0 L0 K) (hk : ∀ v L1 μ1, kY μ0 μ1 → K v L1 μ1 → K' v L1 μ1) : pg dd P f args w μ0 L0 K' :=
 cH h fun _ _ ⟨v, L1, μ1, h1, c, a, d, g, i⟩ => ⟨v, L1, μ1, h1, c, a, d, g, hk _ _ _ a i⟩
theorem lM.mono {R : Type} {dd : Bool} {P : Program} {f : FuncId} {args : List Value} {w : World} {μ0 : lm} {L0 : List (Nat × Obj)} {s : Int ⊕ R} {K K' : R → Value → List (Nat × Obj) → lm → Prop} {X X' : Int → List PanicEntry → List (Nat × Obj) → lm → Prop} (h : lM dd P f args w μ0 L0 s K X) (hk : ∀ r v L1 μ1, K r v L1 μ1 → K' r v L1 μ1) (k : ∀ x c L1 μ1, X x c L1 μ1 → X' x c L1 μ1) : lM dd P f args w μ0 L0 s K' X' :=
 cH h fun e m h => by
  cases s with
  | inl x => obtain ⟨v, L1, μ1, h1, a, d, g, i, j⟩ := h; exact ⟨v, L1, μ1, h1, a, d, g, i, k _ _ _ _ j⟩
  | inr r => obtain ⟨v, L1, μ1, h1, a, d, g, i, j⟩ := h; exact ⟨v, L1, μ1, h1, a, d, g, i, hk _ _ _ _ j⟩
def Us {S : Type} (K : S → List (Nat × Obj) → lm → Prop) (X : Int → List (Nat × Obj) → lm → Prop) : Int ⊕ S → List (Nat × Obj) → lm → Prop
 | .inl x => X x
 | .inr r => K r
end Go.Proofs.YtbnbdigcbldfhaaGreat
namespace Go.Proofs.YtbnbdigcbldfhaaGreat
open Go.IntKind renaming wrap → wi0
open Go.Sort Go.Proofs Go.Shelf
theorem BE {g b : Nat} {o : Obj} : keys [(g, o)] b ↔ b = g := by
 constructor
 ·rintro ⟨a, h⟩
  simp at h
  exact h.1
 ·rintro rfl; exact ⟨o, by simp⟩
theorem BL (w : World) (g m : Nat) (f : Array Value → Array Value) (os : Array Obj) (b : Nat) (c : b < w.heap.size) :
  (Go.Sort.grow (mapBlock (Go.Sort.ahead w m) g f) os).heap[b]? = if g = b then w.heap[b]?.map (onCells f) else w.heap[b]? := by
 have a : b < (mapBlock (Go.Sort.ahead w m) g f).heap.size := by simp only [mapBlock, Go.Sort.ahead, Array.size_modify]; exact c
 rw [heap_grow_old _ _ a]
 simp only [mapBlock, Go.Sort.ahead, dK]
theorem EH {w : World} {g m : Nat} {f : Array Value → Array Value} {os : Array Obj} {cs : Array Value} {T : TypeId} {fr : Nat × Nat} (c : w.heap[g]? = some (.cells cs T fr)) :
  sG true [(g, .cells cs T fr)] [(g, .cells (f cs) T fr)] w (Go.Sort.grow (mapBlock (Go.Sort.ahead w m) g f) os) := by
 have a : g < w.heap.size := (cJ.1 c).1
 refine ⟨⟨rfl, rfl, rfl, ?_, ?_, fun b d i => ?_⟩, fun b o h => ?_, by simp⟩
 ·refine uX.of ?_
  show w.drawn ≤ w.drawn + m
  omega
 ·show w.heap.size ≤ (w.heap.modify g (onCells f) ++ os).size
  simp
 ·rw [BL _ _ _ _ _ _ d, aK fun h => i (BE.2 h.symm)]
 ·simp only [aR, di, fw, Prod.mk.injEq] at h
  obtain ⟨rfl, rfl⟩ := h
  refine ⟨?_, .inr (BE.2 rfl)⟩
  rw [BL _ _ _ _ _ _ a, aM rfl, c]
  rfl
theorem Ji {w W : World} (h : Ex true w W) : ∃ q os, W = Go.Sort.grow (w.drewN q) os := by
 refine ⟨W.drawn - w.drawn, W.heap.extract w.heap.size W.heap.size, ?_⟩
 have g : W.heap = w.heap ++ W.heap.extract w.heap.size W.heap.size := by
  apply Array.ext_getElem?
  intro i
  rw [fB]
  split
  ·rename_i j; exact h.na i j
  ·rename_i j
   rw [Array.getElem?_extract]
   have m := h.size
   split
   ·rw [show w.heap.size + (i - w.heap.size) = i by omega]
   ·exact Array.getElem?_eq_none (by omega)
 obtain ⟨h1, n, o, s, t⟩ := W
 have a := h.os; have c := h.tape; have d := h.output; have k := h.drawn rfl
 simp only at a c d k g
 unfold Go.Sort.grow World.drewN
 simp only [World.mk.injEq]
 exact ⟨g, c, by omega, a, d⟩
theorem Pj {α : Type} [Inhabited α] {enc : α → List Value} {k : Nat} (hk : ∀ x, (enc x).length = k) (l : List α) (j : Nat) (a : j < l.length * k) :
  (l.map enc).flatten[j]? = some ((flatK enc k l.toArray)[j]!) := by
 have g : 0 < k := by
  cases k with
  | zero => simp at a
  | succ n => omega
 have h1 : j / k < l.length := (ie g).2 a
 rw [get_flatK _ _ _ _ (by simpa using a)]
 have h : l.toArray[j / k]! = l[j / k] := by
  rw [gK l.toArray (j / k) (by simpa using h1)]; simp
 rw [h]
 have c : j % k < (enc l[j / k]).length := by rw [hk]; exact Nat.mod_lt _ g
 have d := yU hk l (j / k) l[j / k] (cj h1) (j % k) ((enc l[j / k])[j % k]) (cj c)
 rw [Nat.div_add_mod' j k] at d
 rw [d, gK (enc l[j / k]) (j % k) c]
theorem LQ {α : Type} [Inhabited α] {enc : α → List Value} {k : Nat} (hk : ∀ x, (enc x).length = k) {w : World} {g : Nat} {cs : Array Value} {T : TypeId} (c : w.heap[g]? = some (.cells cs T (0, 0))) (l : List α)
  (h : cs.toList.take (l.length * k) = (l.map enc).flatten) : HoldsK enc k w g 0 l.toArray := by
 intro j d
 have a : j < l.length * k := by simpa using d
 have h1 := Pj hk l j a
 rw [← h, dx, aM a] at h1
 refine ⟨?_, ?_⟩
 ·simp only [World.cell?, c, df]
  simpa using h1
 ·simp [World.frozen?, c]
theorem OM {α : Type} [Inhabited α] {enc : α → List Value} {k : Nat} (hk : ∀ x, (enc x).length = k) {cs : Array Value} (l : List α) (c : l.length * k ≤ cs.size) :
  (putCells id 0 (flatK enc k l.toArray) cs).toList.take (l.length * k) = (l.map enc).flatten := by
 apply dC
 intro j
 rw [dx]
 split
 ·rename_i a
  rw [Pj hk l j a]
  simp only [putCells, de, ij, size_flatK, cM]
  rw [eP (by omega)]
  simp [a]
 ·rename_i a
  rw [cR (by rw [pJ hk]; omega)]
theorem Mp (enc : Value → Value) (o : Nat) (d c : Array Value) : (putCells enc o d c).size = c.size := by simp [putCells]
section
variable {α : Type} {P : Program} {ρ : Ren}
theorem Sj {l : List α} {cf : α × α → Option Int} (h : G6 cf l) : SWO (ltOf fun (x y : {x // x ∈ l}) => (cf (x.1, y.1)).getD 0) ∧
  (∀ x y : {x // x ∈ l}, ltOf (fun (x y : {x // x ∈ l}) => (cf (x.1, y.1)).getD 0) x y = uv cf x.1 y.1) := by
 have e : ∀ x y : {x // x ∈ l}, ltOf (fun (x y : {x // x ∈ l}) => (cf (x.1, y.1)).getD 0) x y = uv cf x.1 y.1 := fun x y => by
  obtain ⟨c, i⟩ := h.is x.1 x.2 y.1 y.2
  simp [ltOf, uv, i]
 refine ⟨⟨fun x => ?_, fun x y z => ?_, fun x y z => ?_⟩, e⟩
 ·rw [e]; exact h.irrefl _ x.2
 ·rw [e, e, e]; exact h.trans _ x.2 _ y.2 _ z.2
 ·rw [e, e, e]
  intro h1 d
  cases a : uv cf x.1 z.1 with
  | false => rfl
  | true =>
   cases g : uv cf y.1 x.1 with
   | true =>
    have := h.trans _ y.2 _ x.2 _ z.2 g a
    rw [d] at this; cases this
   | false =>
    have := h.total _ x.2 _ y.2 h1 g
    rw [this, d] at a; cases a
theorem Iv (L : SlLaysF0.n6 P ρ) (k : Nat) (aE : ∀ w, (isAgg (ρ.t 24)).run P w = .ok true w) (zE : ∀ w, (Go.sizeOf (ρ.t 24)).run P w = .ok k w) {e : TypeId} (enc : α → List Value) (hk : ∀ x, (enc x).length = k) (h1 : ∀ x, ∀ u ∈ enc x, u.oneCell' = true) {v fv : Value} {l r : List α} {R : List (Nat × Obj)} {cf : α × α → Option Int} {w : World} {μ0 : lm} (hH : EU (R ++ []) w) (A : kY μ0 (sH w (R ++ []))) (Y : kU e enc k v l R) (hc : Ip P fv μ0 (fun (x : α × α) => [(.agg (enc x.1).toArray), (.agg (enc x.2).toArray)]) (fun (r : Int) => (.int .i64 r)) cf) (hm : yA cf l = some r) :
  mh true P (ρ.f 6) [v, fv] w (R ++ []) (fun u L1 _ => ∃ (S : List (Nat × Obj)), u = (.tuple #[]) ∧ L1 = (S ++ []) ∧ kU e enc k v r S) := by
 obtain ⟨ok, rfl⟩ := CQ hm
 rw [cu] at hH A ⊢
 rcases dG l.length with h0 | i
 ·have hl : l = [] := bR h0
  subst hl
  have Z : pQ cf ([] : List α) = [] := by simp [pQ]
  rw [Z]
  obtain ⟨p, c, rfl⟩ : ∃ p c, v = .slice p 0 c := by
   rcases Y with ⟨rfl, _, _⟩ | ⟨g, cap, j, rfl, _⟩
   ·exact ⟨_, _, rfl⟩
   ·exact ⟨_, _, rfl⟩
  refine cH (AnyF.slices_SortFunc_none L p c fv w) fun x w' ⟨hx, hw⟩ => ?_
  subst hx hw
  refine ⟨_, R, rfl, ⟨⟨rfl, rfl, rfl, uX.of (bB _), bB _, fun _ _ _ => rfl⟩, fun b o h => ⟨hH b o h, .inr ⟨o, h⟩⟩, ?_⟩, R, rfl, (cu R).symm, Y⟩
  rcases Y with ⟨_, _, rfl⟩ | ⟨g, cap, j, _, rfl, _⟩ <;> simp
 ·rcases Y with ⟨_, rfl, _⟩ | ⟨g, cap, j, rfl, rfl, a8, a7, M, ae⟩
  ·simp at i
  have hg : w.heap[g]? = some (.cells j e (0, 0)) := hH g _ (by simp)
  have aa : g < w.heap.size := (cJ.1 hg).1
  haveI : Inhabited {x // x ∈ l} := ⟨⟨l[0], dM i⟩⟩
  obtain ⟨gg, caps, rfl, O, q⟩ := hc
  obtain ⟨hO, Q⟩ := Sj ok
  have D : l.attach.toArray.size = l.length := by simp
  have ab : l.attach.map (fun x => enc x.1) = l.map enc := by
   rw [show (fun x : {x // x ∈ l} => enc x.1) = enc ∘ Subtype.val from rfl, ← dQ, List.attach_map_subtype_val]
  have a1 : HoldsK (fun x : {x // x ∈ l} => enc x.1) k w g 0 l.attach.toArray := LQ (fun x => hk x.1) hg l.attach (by rw [ab, List.length_attach, ae])
  have J : CmpLays P gg caps (fun x : {x // x ∈ l} => enc x.1) k (fun x y => (cf (x.1, y.1)).getD 0) g 0 l.attach.toArray.size w := by
   intro m os dk ag x y
   obtain ⟨c, I⟩ := ok.is x.1 x.2 y.1 y.2
   have W : kY μ0 (hp (sortWorldK (fun x : {x // x ∈ l} => enc x.1) k w g 0 m dk os)) := fun b o hb => by
    have z := A b o hb
    unfold sH at z
    split at z
    ·cases z
    ·rename_i hn
     have a6 : b < w.heap.size := (cJ.1 z).1
     show (Go.Sort.grow (mapBlock (Go.Sort.ahead w m) g _) os).heap[b]? = _
     rw [BL _ _ _ _ _ _ a6, aK fun h => hn (BE.2 h.symm)]
     exact z
   have h3 := q (sortWorldK (fun x : {x // x ∈ l} => enc x.1) k w g 0 m dk os) (x.1, y.1) c W I
   have ea : ([Value.agg (enc x.1).toArray, Value.agg (enc y.1).toArray] ++ caps.toList).toArray = #[Value.agg (enc x.1).toArray, Value.agg (enc y.1).toArray] ++ caps := by
    apply Array.ext'; simp
   rw [← ea]
   exact cH h3 fun u W' hu => ⟨by rw [hu.1]; show _ = Ending.returned (.int .i64 ((cf (x.1, y.1)).getD 0)); rw [I]; rfl, Ji hu.2⟩
  have hT : ∀ x y : {x // x ∈ l}, ltOf (fun (x y : {x // x ∈ l}) => (cf (x.1, y.1)).getD 0) x y = false → ltOf (fun (x y : {x // x ∈ l}) => (cf (x.1, y.1)).getD 0) y x = false → x = y := fun x y a b => by
   rw [Q] at a b
   exact Subtype.ext (ok.total _ x.2 _ y.2 a b)
  have d := AnyQ.slices_SortFunc_total L k aE zE (fun x : {x // x ∈ l} => enc x.1) (fun x => hk x.1) (fun x => h1 x.1) (fun x y => (cf (x.1, y.1)).getD 0) hO gg caps g 0 cap l.attach.toArray w O J a1 aa (by rw [D]; exact ok.short) hT
  rw [D] at d
  refine cH d fun u w' ⟨hu, n, os, hw⟩ => ?_
  subst hu
  generalize Z : l.attach.toArray.toList.mergeSort (fun x y => !ltOf (fun (x y : {x // x ∈ l}) => (cf (x.1, y.1)).getD 0) y x) = s at hw
  have ad : s.map Subtype.val = pQ cf l := by
   rw [← Z, gk (s := fun x y => !uv cf y x) (fun a _ b _ => by rw [Q])]
   simp [pQ]
  have U : s.length = l.length := by rw [← Z, fE]; simp
  have T : (pQ cf l).length = l.length := by simp [pQ, fE]
  have G := EH (w := w) (m := n) (f := putCells id 0 (flatK (fun x : {x // x ∈ l} => enc x.1) k s.toArray)) (os := os) hg
  have af : w' = Go.Sort.grow (mapBlock (Go.Sort.ahead w n) g (putCells id 0 (flatK (fun x : {x // x ∈ l} => enc x.1) k s.toArray))) os := hw
  rw [← af] at G
  refine ⟨_, _, rfl, G, _, rfl, (cu _).symm, .inr ⟨g, cap, _, by rw [T], rfl, by omega, a7, by rw [Mp, M], ?_⟩⟩
  rw [T, ← U, OM (fun x => hk x.1) s (by rw [U, M]; exact cn k a8), ← ad, dQ]
  rfl
end
end Go.Proofs.YtbnbdigcbldfhaaGreat
namespace Go.Proofs.YtbnbdigcbldfhaaGreat
open Go.IntKind renaming wrap → wi0
open Go.Sort Go.Proofs Go.Shelf Go.RowKit
def xq (c : tU 1) : Value := c.1.headD undef
theorem HS (c : tU 1) : c.1 = [xq c] := by
 obtain ⟨l, h, d⟩ := c
 match l, h with
 | [a], _ => rfl
theorem S5 (c : tU 1) : (xq c).oneCell' = true := c.2.2 _ (by rw [HS c]; simp)
theorem Re : ∀ cl : List (tU 1), (cl.map wW).flatten = cl.map xq
 | [] => rfl
 | c :: cl => by rw [bD, dt, Re cl, show wW c = [xq c] from HS c]; rfl
theorem Tg {α β : Type} {Q : α → β → Prop} {cl : List α} {l : List β} (h : qI Q cl l) : ∀ (i : Nat) (x : β), l[i]? = some x → ∃ c, cl[i]? = some c ∧ Q c x := by
 induction h with
 | nil => intro i x a; simp at a
 | cons g _ ih =>
  intro i x a
  cases i with
  | zero => simp at a; subst a; exact ⟨_, by simp, g⟩
  | succ i => simp at a; obtain ⟨c, h1, d⟩ := ih i x a; exact ⟨c, by simpa using h1, d⟩
theorem MP {α β γ : Type} {Q : α → β → Prop} {f : γ → α} {g : γ → β} : ∀ s : List γ, (∀ x ∈ s, Q (f x) (g x)) → qI Q (s.map f) (s.map g)
 | [], _ => .nil
 | x :: s, h => .cons (h x (by simp)) (MP s (fun y a => h y (by simp [a])))
theorem Xd {β : Type} {Q : tU 1 → β → Prop} {cl : List (tU 1)} {l : List β} (h : qI Q cl l) (s : l.Nodup) : ∃ enc : {x // x ∈ l} → tU 1, l.attach.map enc = cl ∧ ∀ x, Q (enc x) x.1 := by
 have g : ∀ x : {x // x ∈ l}, ∃ (i : Nat) (c : tU 1), l[i]? = some x.1 ∧ cl[i]? = some c ∧ Q c x.1 := fun x => by
  obtain ⟨i, a⟩ := List.getElem?_of_mem x.2
  obtain ⟨c, h1, q⟩ := Tg h i _ a
  exact ⟨i, c, a, h1, q⟩
 refine ⟨fun x => (g x).choose_spec.choose, ?_, fun x => (g x).choose_spec.choose_spec.2.2⟩
 apply dC
 intro i
 rw [du]
 by_cases a : i < l.length
 ·have o : l.attach[i]? = some ⟨l[i], dM a⟩ := by
   rw [cj (by simpa using a)]; simp
  rw [o, dz]
  have t := (g ⟨l[i], dM a⟩).choose_spec.choose_spec
  generalize (g ⟨l[i], dM a⟩).choose_spec.choose = c at *
  generalize (g ⟨l[i], dM a⟩).choose = j at *
  obtain ⟨n, a2, _⟩ := t
  obtain ⟨m, k⟩ := bA.1 n
  have : j = i := by
   have hp := fU.1 s
   rcases fG j i with d | d | d
   ·exact absurd k (hp j i m a d)
   ·exact d
   ·exact absurd k.symm (hp i j a m d)
  rw [← this, a2]
 ·rw [cR (by simpa using a), cR (by rw [h.length]; omega)]; rfl
theorem NH {α : Type} [Inhabited α] {enc : α → Value} {cs : Array Value} (l : List α) (c : l.length ≤ cs.size) :
  (putCells enc 0 l.toArray cs).toList.take l.length = l.map enc := by
 apply dC
 intro j
 rw [dx, du]
 split
 ·rename_i a
  simp only [putCells, de, ij, cM]
  rw [eP (by omega)]
  simp [a]
 ·rename_i a
  rw [cR (by omega)]; rfl
section
variable {P : Program} {ρ : Ren} {β : Type} {Rl : rA β}
theorem OO (L : SlLaysF.n6 P ρ) (hD : Deep Rl 1) {e : TypeId} {v fv : Value} {l r : List β} {R : List (Nat × Obj)} {cf : β × β → Option Int} {w : World} {μ0 : lm} (h0 : pP μ0 (R ++ []) w) (hr : nm e Rl 1 μ0 v l R) (hc : Yr P fv μ0 Rl cf) (hm : EC cf l = some r) :
  pg true P (ρ.f 6) [v, fv] w μ0 (R ++ []) (fun u L1 μ1 => ∃ (S : List (Nat × Obj)), u = (.tuple #[]) ∧ L1 = (S ++ []) ∧ nm e Rl 1 μ1 v r S) := by
 unfold EC at hm
 have hn : l.Nodup := dX fun h => by rw [aK h] at hm; cases hm
 rw [aM hn] at hm
 obtain ⟨ok, rfl⟩ := CQ hm
 have hH := h0.H
 have D := h0.S
 obtain ⟨cl, d, k⟩ := hr
 have hlen := k.length
 rw [cu] at hH D ⊢
 rcases dG l.length with hz | Z
 ·have hl : l = [] := bR hz
  subst hl
  have a8 : cl = [] := bR (by simpa using hlen)
  subst a8
  have hs : pQ cf ([] : List β) = [] := by simp [pQ]
  rw [hs]
  obtain ⟨p, c, rfl⟩ : ∃ p c, v = .slice p 0 c := by
   rcases d with ⟨rfl, _, _⟩ | ⟨g, cap, i, rfl, _⟩
   ·exact ⟨_, _, rfl⟩
   ·exact ⟨_, _, rfl⟩
  refine cH (AnyF.slices_SortFunc_none (P := P) (ρ := ρ) { L with } p c fv w) fun x w' ⟨hx, hw⟩ => ?_
  subst hx hw
  refine ⟨_, R, μ0, rfl, ⟨⟨rfl, rfl, rfl, uX.of (bB _), bB _, fun _ _ _ => rfl⟩, fun b o h => ⟨hH b o h, .inr ⟨o, h⟩⟩, ?_⟩, kY.refl _, Lo.refl, D, R, rfl, (cu R).symm, [], d, k⟩
  rcases d with ⟨_, _, rfl⟩ | ⟨g, cap, i, _, rfl, _⟩ <;> simp
 ·rcases d with ⟨_, rfl, _⟩ | ⟨g, cap, i, rfl, rfl, ad, aa, ab, J⟩
  ·simp at hlen; omega
  rw [hlen] at ad J
  rw [Re, Nat.mul_one] at J
  rw [Nat.mul_one] at ab
  have hg : w.heap[g]? = some (.cells i e (0, 0)) := hH g _ (by simp)
  have ae : g < w.heap.size := (cJ.1 hg).1
  haveI : Inhabited {x // x ∈ l} := ⟨⟨l[0], dM Z⟩⟩
  obtain ⟨enc, he, hq⟩ := Xd k hn
  obtain ⟨gg, caps, rfl, W, G⟩ := hc
  obtain ⟨hO, Y⟩ := Sj ok
  have O : l.attach.toArray.size = l.length := by simp
  have a1 : cl.map xq = l.attach.map (fun x => xq (enc x)) := by rw [← he, dQ]; rfl
  have a6 : Holds (fun x : {x // x ∈ l} => xq (enc x)) w g 0 l.attach.toArray := by
   intro j hj
   have I : j < l.length := by simpa using hj
   have e1 : i[j]? = some (xq (enc l.attach.toArray[j]!)) := by
    have h1 : (i.toList.take l.length)[j]? = i[j]? := by rw [dx, aM I]; simp
    rw [← h1, J, a1, du, cj (by simpa using I), dz]
    rw [gK l.attach.toArray j (by simpa using I)]; simp
   refine ⟨?_, ?_⟩
   ·simp only [World.cell?, hg, df]
    simpa using e1
   ·simp [World.frozen?, hg]
  have z : ∀ (m : Nat) (os : Array Obj) (M : Array {x // x ∈ l}), kY μ0 (hp (sortWorld (fun x : {x // x ∈ l} => xq (enc x)) w g 0 m M os)) := fun m os M b o hb => by
   have A := D b o hb
   unfold sH at A
   split at A
   ·cases A
   ·rename_i hn
    have a7 : b < w.heap.size := (cJ.1 A).1
    show (Go.Sort.grow (mapBlock (Go.Sort.ahead w m) g _) os).heap[b]? = _
    rw [BL _ _ _ _ _ _ a7, aK fun h => hn (BE.2 h.symm)]
    exact A
  have U : CmpLays1 P gg caps (fun x : {x // x ∈ l} => xq (enc x)) (fun x y => (cf (x.1, y.1)).getD 0) g 0 l.attach.toArray.size w := by
   intro m os M aj x y
   obtain ⟨c, T⟩ := ok.is x.1 x.2 y.1 y.2
   have t := z m os M
   have h3 := G (sortWorld (fun x : {x // x ∈ l} => xq (enc x)) w g 0 m M os) (x.1, y.1) (xq (enc x)) (xq (enc y)) c t (by rw [← HS]; exact hD.mono _ _ _ _ t (hq x)) (by rw [← HS]; exact hD.mono _ _ _ _ t (hq y)) T
   have ea : ([xq (enc x), xq (enc y)] ++ caps.toList).toArray = #[xq (enc x), xq (enc y)] ++ caps := by
    apply Array.ext'; simp
   rw [← ea]
   exact cH h3 fun u W' hu => ⟨by rw [hu.1]; show _ = Ending.returned (.int .i64 ((cf (x.1, y.1)).getD 0)); rw [T]; rfl, Ji hu.2⟩
  have hT : ∀ x y : {x // x ∈ l}, ltOf (fun (x y : {x // x ∈ l}) => (cf (x.1, y.1)).getD 0) x y = false → ltOf (fun (x y : {x // x ∈ l}) => (cf (x.1, y.1)).getD 0) y x = false → x = y := fun x y a b => by
   rw [Y] at a b
   exact Subtype.ext (ok.total _ x.2 _ y.2 a b)
  have q := Any.slices_SortFunc_total L (fun x : {x // x ∈ l} => xq (enc x)) (fun x => S5 _) (fun x y => (cf (x.1, y.1)).getD 0) hO gg caps g 0 cap l.attach.toArray w W U a6 ae (by rw [O]; exact ok.short) hT
  rw [O] at q
  rw [hlen]
  refine cH q fun u w' ⟨hu, n, os, hw⟩ => ?_
  subst hu
  generalize hs : l.attach.toArray.toList.mergeSort (fun x y => !ltOf (fun (x y : {x // x ∈ l}) => (cf (x.1, y.1)).getD 0) y x) = s at hw
  have ah : s.map Subtype.val = pQ cf l := by
   rw [← hs, gk (s := fun x y => !uv cf y x) (fun a _ b _ => by rw [Y])]
   simp [pQ]
  have ag : s.length = l.length := by rw [← hs, fE]; simp
  have Q := EH (w := w) (m := n) (f := putCells (fun x : {x // x ∈ l} => xq (enc x)) 0 s.toArray) (os := os) hg
  have ai : w' = Go.Sort.grow (mapBlock (Go.Sort.ahead w n) g (putCells (fun x : {x // x ∈ l} => xq (enc x)) 0 s.toArray)) os := hw
  rw [← ai] at Q
  refine ⟨_, _, μ0, rfl, Q, kY.refl _, Lo.refl, ?_, _, rfl, (cu _).symm, s.map enc, .inr ⟨g, cap, _, by rw [dy, ag], rfl, by rw [dy]; omega, aa, by simp [putCells]; omega, ?_⟩, ?_⟩
  ·intro b o hb
   have A := D b o hb
   unfold sH at A ⊢
   split at A
   ·cases A
   ·rename_i af
    rw [aK (fun h => af (BE.2 (BE.1 h)))]
    have := z n os s.toArray b o hb
    rw [hw]; exact this
  ·rw [dy, Nat.mul_one, Re, dQ]
   exact NH s (by omega)
  ·rw [← ah]
   exact MP s (fun x _ => hq x)
end
end Go.Proofs.YtbnbdigcbldfhaaGreat
namespace Go.Proofs.YtbnbdigcbldfhaaGreat
open Go.IntKind renaming wrap → wi0
open Go.Sort Go.Proofs Go.Shelf
theorem Hn (b : ByteArray) : b.toList = b.data.toList := by rw [eZ]
theorem MC (l : List ByteArray) : (l.map ni).flatten = l.map Value.string := by
 induction l with
 | nil => rfl
 | cons x l ih => simp only [bD, dt, ih]; rfl
theorem MO (l : List ByteArray) : (oV l).map (fun b => b.data.toList) = (l.map (fun b => b.data.toList)).mergeSort (fun x y => decide (x ≤ y)) := by
 unfold oV
 refine gk fun a _ b _ => ?_
 unfold qp
 rw [bytesLess_eq, Hn, Hn]
 by_cases h : a.data.toList ≤ b.data.toList
 ·have c : ¬ b.data.toList < a.data.toList := List.not_lt.2 h
  simp [h, c]
 ·have c : b.data.toList < a.data.toList := by
   cases Decidable.em (b.data.toList < a.data.toList) with
   | inl d => exact d
   | inr d => exact absurd (List.not_lt.1 d) h
  simp [h, c]
section
variable {P : Program} {ρ : Ren}
theorem OB (L : SlLaysM.n6 P ρ) {e : TypeId} {v : Value} {l r : List ByteArray} {R : List (Nat × Obj)} {w : World} (hH : EU (R ++ []) w) (A : kU e ni 1 v l R) (hm : HQ l = some r) :
  mh true P (ρ.f 6) [v] w (R ++ []) (fun u L1 _ => ∃ (S : List (Nat × Obj)), u = (.tuple #[]) ∧ L1 = (S ++ []) ∧ kU e ni 1 v r S) := by
 unfold HQ at hm
 split at hm
 ·rename_i k
  cases hm
  rw [cu] at hH ⊢
  rcases dG l.length with T | s
  ·have Y : l = [] := bR T
   subst Y
   have hs : oV [] = [] := by simp [oV]
   rw [hs]
   obtain ⟨p, c, rfl⟩ : ∃ p c, v = .slice p 0 c := by
    rcases A with ⟨rfl, _, _⟩ | ⟨g, cap, d, rfl, _⟩
    ·exact ⟨_, _, rfl⟩
    ·exact ⟨_, _, rfl⟩
   refine cH (AnyM.slices_Sort_string_none L p c w) fun x Q ⟨hx, hw⟩ => ?_
   subst hx hw
   refine ⟨_, R, rfl, ⟨⟨rfl, rfl, rfl, uX.of (bB _), bB _, fun _ _ _ => rfl⟩, fun b o h => ⟨hH b o h, .inr ⟨o, h⟩⟩, ?_⟩, R, rfl, (cu R).symm, A⟩
   rcases A with ⟨_, _, rfl⟩ | ⟨g, cap, d, _, rfl, _⟩ <;> simp
  ·rcases A with ⟨_, rfl, _⟩ | ⟨g, cap, d, rfl, rfl, Z, G, I, M⟩
   ·simp at s
   have y : w.heap[g]? = some (.cells d e (0, 0)) := hH g _ (by simp)
   have J : g < w.heap.size := (cJ.1 y).1
   have D : Holds encStr w g 0 (l.map (fun b => b.data.toList)).toArray := by
    intro j z
    have i : j < l.length := by simpa using z
    have h1 : (d.toList.take (l.length * 1))[j]? = ((l.map ni).flatten)[j]? := by rw [M]
    rw [MC, dx, aM (by omega), du, cj i] at h1
    refine ⟨?_, by simp [World.frozen?, y]⟩
    simp only [World.cell?, y, df]
    rw [gK _ j z]
    simpa using h1
   have a := AnyM.slices_Sort_string L g 0 cap (l.map (fun b => b.data.toList)) w D J (by simpa using k)
   rw [dy, ← MO] at a
   refine cH a fun u Q ⟨hu, n, os, hw⟩ => ?_
   subst hu
   have t : (oV l).length = l.length := by simp [oV, fE]
   have q := EH (w := w) (m := n) (f := putCells encStr 0 ((oV l).map (fun b => b.data.toList)).toArray) (os := os) y
   have O : Q = Go.Sort.grow (mapBlock (Go.Sort.ahead w n) g (putCells encStr 0 ((oV l).map (fun b => b.data.toList)).toArray)) os := hw
   rw [← O] at q
   refine ⟨_, _, rfl, q, _, rfl, (cu _).symm, .inr ⟨g, cap, _, by rw [t], rfl, by omega, G, by simpa [putCells] using I, ?_⟩⟩
   rw [t, MC]
   apply dC
   intro j
   rw [dx]
   split
   ·rename_i z
    have i : j < (oV l).length := by omega
    rw [du, cj i]
    simp only [putCells, de, ij]
    rw [eP (by omega)]
    have U : j < ((oV l).map (fun b => b.data.toList)).toArray.size := by simpa using i
    have W : 0 ≤ j ∧ j < 0 + ((oV l).map (fun b => b.data.toList)).toArray.size := ⟨by omega, by omega⟩
    simp only [dz, aM W, Nat.sub_zero]
    rw [gK _ j U]
    simp
   ·rename_i z
    rw [cR (by simp; omega)]
 ·cases hm
end
end Go.Proofs.YtbnbdigcbldfhaaGreat
namespace Go.Proofs.YtbnbdigcbldfhaaGreat
open Go.IntKind renaming wrap → wi0
open Go.WideElems Go.WideShapes Go.Sort Go.Proofs Go.Shelf
theorem OF {β : Type} {vf : β → Value} {P : Program} {kt : TypeId} (z : P.underlying kt = some .string) {l : List (ByteArray × β)} {es : Array MapEntry} {clock : Nat} (h : xj Value.string vf l es clock) (w : (l.map (·.1)).Nodup) (y : ∀ p ∈ l, p.1.size ≤ maxLen) (u : l.length ≤ maxLen) {W : World} {b : Nat} (t : W.heap[b]? = some (.map es clock)) : ∃ D : DataW Unit, W.ownsMap P kt (fun _ => some (.lit (.bool true), [])) b es.size D ∧ (strKeys D).Perm (l.map (fun p => p.1.data.toList)) ∧ Maps.size D = l.length := by
 have c := h.keys
 have m : ∀ x ∈ es.toList, ∃ s : ByteArray, x.key = .string s ∧ s.size ≤ maxLen := fun x i => by
  have h1 : x.key ∈ es.toList.map (·.key) := bH.2 ⟨x, i, rfl⟩
  rw [c] at h1
  obtain ⟨s, g, j⟩ := bH.1 h1
  obtain ⟨p, o, q⟩ := bH.1 g
  exact ⟨s, j.symm, by rw [← q]; exact y p o⟩
 have d : ∀ x ∈ es.toList, ∃ s : ByteArray, x.key = .string s ∧ Go.WideElems.rd (H := Unit) P kt (fun _ => some (.lit (.bool true), [])) x = some (.string s.data.toList, .lit (.bool true)) := fun x i => by
  obtain ⟨s, h1, g⟩ := m x i
  refine ⟨s, h1, ?_⟩
  simp [Go.WideElems.rd, keyOf, z, mapKey, h1, g]
 refine ⟨_, ⟨es, clock, t, ⟨by rw [h.length]; exact u, ⟨h.lt, ?_, ?_⟩, fun x i => ?_⟩, bB _, rfl⟩, ?_, ?_⟩
 ·have := h.born
  rw [List.Nodup, fF]
  exact this.imp (fun {a b} h => by omega)
 ·rw [c]
  rw [List.Nodup, fF]
  exact w.imp (fun {a b} k e => k (by injection e))
 ·obtain ⟨s, _, g⟩ := d x i
  exact ⟨_, g⟩
 ·have h1 := (sorted_perm (es.toList.map (Go.WideElems.rg (H := Unit) P kt (fun _ => some (.lit (.bool true), []))))).map (fun p => strOf p.1)
  refine List.Perm.trans h1 ?_
  have e : (es.toList.map (Go.WideElems.rg (H := Unit) P kt (fun _ => some (.lit (.bool true), [])))).map (fun p => strOf p.1) = l.map (fun p => p.1.data.toList) := by
   have n : (es.toList.map (Go.WideElems.rg (H := Unit) P kt (fun _ => some (.lit (.bool true), [])))).map (fun p => strOf p.1) = (es.toList.map (·.key)).map (fun v => match v with | .string s => s.data.toList | _ => []) := by
    rw [dQ, dQ]
    refine List.map_congr_left fun x i => ?_
    obtain ⟨s, g, j⟩ := d x i
    simp [Go.WideElems.rg, j, g, strOf]
   rw [n, c, dQ, dQ]
   rfl
  rw [e]
 ·have h1 := (sorted_perm (es.toList.map (Go.WideElems.rg (H := Unit) P kt (fun _ => some (.lit (.bool true), []))))).length_eq
  show (List.foldr DataW.insert [] _).length = _
  rw [h1, dy, ← h.length]
  simp
theorem Mb {l : List ByteArray} {g : List (List UInt8)} (h : g.Perm (l.map fun b => b.data.toList)) : g.mergeSort (fun x y => decide (x ≤ y)) = (oV l).map (fun b => b.data.toList) := by
 rw [MO]
 have le : ∀ a b c : List UInt8, decide (a ≤ b) = true → decide (b ≤ c) = true → decide (a ≤ c) = true := fun a b c h1 d => by
  simp only [bV] at *
  exact List.le_trans h1 d
 have tot : ∀ a b : List UInt8, (decide (a ≤ b) || decide (b ≤ a)) = true := fun a b => by
  simp only [dW, bV]
  exact List.le_total a b
 refine List.Perm.eq_of_pairwise (le := fun a b => decide (a ≤ b) = true) (fun a b _ _ h1 d => List.le_antisymm (by simpa using h1) (by simpa using d)) (gA le tot _) (gA le tot _) ?_
 exact (fZ _ _).trans (h.trans (fZ _ _).symm)
section
variable {P : Program} {ρk ρt ρm : Ren}
theorem Ov (LK : SlLaysZ.n7 P ρk) (LT : SlLaysZ.n6 P ρt) (LM : SlLaysM.n6 P ρm) (h9 : ρt.f 9 = ρm.f 6) (hK : P.underlying (ρk.t 26) = some .string) (eg : ∀ args w, (callFunc (ρk.f 10) args).run P w = .ok (.enter (ρk.f 10) args) w) (es : ∀ args w, (callFunc (ρt.f 9) args).run P w = .ok (.enter (ρt.f 9) args) w) {β : Type} {vf : β → Value} {l : List (ByteArray × β)} {b : Nat} {mv : Value} {t : TypeId} {W : World} {r : List ByteArray} (u : W.heap[b]? = some (.cells #[mv] t (0, 0))) (hm : xk Value.string vf (hp W) mv l) (hk : Jf l = some r) :
  lK false P (ρt.f 6) [.func (.func (ρk.f 10)) #[] #[.pointer (some ⟨b, 0, none⟩)]] W (ρt.t 26) ni 1 r := by
 unfold Jf at hk
 split at hk
 case isFalse => cases hk
 rename_i hc
 obtain ⟨U, Y, Z⟩ := hc
 cases hk
 have i : b < W.heap.size := (cJ.1 u).1
 have c : W.cell? ⟨b, 0, none⟩ = some mv := by simp [World.cell?, u]
 have q : AnyZ.SortsIn P ρt Fence.wide 4 :=
  ⟨fun O off cap d W hH hblk s => callsIn_wide.2 (by rw [h9]; exact AnyM.slices_Sort_string LM O off cap d W hH hblk s), fun p cap W => callsIn_wide.2 (by rw [h9]; exact AnyM.slices_Sort_string_none LM p cap W)⟩
 have L : SeqGives Fence.wide 2 P (ρk.f 10) #[.pointer (some ⟨b, 0, none⟩)] encStr (fun d => d.Perm ((l.map (·.1)).map fun b => b.data.toList)) l.length W := by
  rcases hm with ⟨rfl, rfl⟩ | ⟨m, es, clock, rfl, a7, A⟩
  ·have := AnyZ.keys_gives_nil (ρ := ρk) { LK with } Fence.wide 2 trivial rfl b W i c
   intro l' J W' R Q T M
   refine CallsIn.mono (this l' J W' R Q T M) ?_
   rintro e w' ⟨hv, d, rfl, hj⟩
   exact ⟨hv, [], dp _, hj⟩
  ·obtain ⟨D, G, n, s⟩ := OF hK A U Y (by unfold maxLen; omega) a7
   have := AnyZ.keys_gives (ρ := ρk) { LK with } Fence.wide 2 trivial rfl (by omega) b m es.size D W i c G
   intro l' J W' R Q T M
   refine CallsIn.mono (this l' J W' R Q (by rw [s]; exact T) M) ?_
   rintro e w' ⟨hv, d, hp, hj⟩
   refine ⟨hv, d, ?_, hj⟩
   rw [dQ]
   exact hp.trans n
 have cS := AnyZ.sorted_in LT Fence.wide 5 trivial trivial trivial trivial rfl (by omega) q es (ρk.f 10) #[.pointer (some ⟨b, 0, none⟩)] trivial eg _ l.length (by unfold maxLen; omega) Z W L
 refine cH (callsIn_wide.1 cS) ?_
 rintro e w' ⟨v, d, rfl, hS, I, aa, a⟩
 have hs := Mb hS
 have hlen : d.length = (oV (l.map (·.1))).length := by
  have := aV List.length hs
  simpa using this
 have k : (d.mergeSort (fun x y => decide (x ≤ y))).map encStr = ((oV (l.map (·.1))).map ni).flatten := by
  rw [hs, MC, dQ]
  refine List.map_congr_left (fun x _ => ?_)
  simp only [Function.comp, encStr]
 rcases I.2 with ⟨rfl, M⟩ | ⟨g, cap, z, rfl, j, hg, ab, a1, a6, a8⟩
 ·have : oV (l.map (·.1)) = [] := bR (by omega)
  rw [this]
  exact ⟨_, [], rfl, sG.Mu ⟨a.os, a.tape, a.output, fun h => (by cases h), a.size, fun b u => a.block b u⟩ (fun _ _ h => by cases h) (by simp), kU.nil _ _ _⟩
 ·refine ⟨_, [(g, .cells z (ρt.t 26) (0, 0))], rfl, sG.Mu ⟨a.os, a.tape, a.output, fun h => (by cases h), a.size, fun b u => a.block b u⟩ (fun b o h => by simp at h; obtain ⟨rfl, rfl⟩ := h; exact ⟨hg, j⟩) (by simp), .inr ⟨g, cap, z, by rw [hlen], rfl, by omega, a1, a6, ?_⟩⟩
  rw [← hlen, a8, k]
end
end Go.Proofs.YtbnbdigcbldfhaaGreat
namespace Go.Proofs.YtbnbdigcbldfhaaGreat
open Go.IntKind renaming wrap → wi0
def eG := @Tryz.underlying9
def eQ := @Tryz.zeroValue9
def fg := @Tryz.underlying0
def fx := @Tryz.zeroValue0
def fN := @Tryz.underlying4
def fO := @Tryz.sizeOf9
def gh := @Tryz.zeroValue4
def gl := @Tryz.underlying215
def gm := @Tryz.underlying261
def gn := @Tryz.underlying262
def gp := @Tryz.underlying268
def gq := @Tryz.underlying270
def gr := @Tryz.underlying291
def gu := @Tryz.underlying295
def gv := @Tryz.underlying315
def gw := @Tryz.underlying142
def gB := @Tryz.isAgg9
def gL := @Tryz.sizeOf0
def gM := @Tryz.zeroValue215
def gN := @Tryz.zeroValue261
def gO := @Tryz.zeroValue262
def gP := @Tryz.underlying39
def gQ := @Tryz.zeroValue268
def gS := @Tryz.zeroValue270
def gT := @Tryz.zeroValue291
def gU := @Tryz.zeroValue295
def gV := @Tryz.zeroValue315
def gW := @Tryz.zeroValue142
def iv := @Tryz.underlying3
def iw := @Tryz.underlying5
def iy := @Tryz.zeroValue39
def iJ := @Tryz.isAgg0
def iO := @Tryz.zeroValue3
def iP := @Tryz.zeroValue5
def iW := @Tryz.sizeOf4
def je := @Tryz.sizeOf215
def jf := @Tryz.sizeOf261
def jg := @Tryz.sizeOf262
def jh := @Tryz.sizeOf268
def ji := @Tryz.sizeOf270
def jj := @Tryz.sizeOf291
def jk := @Tryz.sizeOf295
def jl := @Tryz.sizeOf315
def jm := @Tryz.sizeOf142
def jn := @Tryz.underlying112
def jx := @Tryz.isAgg4
def jz := @Tryz.zeroValue112
def jH := @Tryz.isAgg215
def jI := @Tryz.isAgg261
def jJ := @Tryz.isAgg262
def jK := @Tryz.sizeOf39
def jL := @Tryz.isAgg268
def jM := @Tryz.isAgg270
def jN := @Tryz.isAgg291
def jO := @Tryz.isAgg295
def jP := @Tryz.isAgg315
def jQ := @Tryz.isAgg142
def jW := @Tryz.sizeOf3
def jX := @Tryz.sizeOf5
def jY := @Tryz.isAgg39
def km := @Tryz.isAgg3
def ko := @Tryz.isAgg5
def Rq : Go.Shelf.Ren := ⟨fun | 6 => 116 | 15 => 179 | 14 => 178 | 28 => 225 | 29 => 226 | 20 => 217 | 21 => 218 | 22 => 219 | 23 => 220 | 24 => 221 | 25 => 222 | 26 => 223 | 27 => 224 | 46 => 255 | 47 => 256 | 48 => 257 | 49 => 258 | 50 => 259 | 57 => 290 | n => n, fun | 22 => 22 | 24 => 108 | 25 => 133 | 3 => 3 | 39 => 215 | 0 => 0 | 53 => 268 | 55 => 270 | 4 => 4 | 46 => 262 | 45 => 261 | 50 => 39 | 5 => 5 | 9 => 9 | 66 => 291 | 70 => 295 | 76 => 315 | 77 => 142 | n => n, fun | n => n⟩
theorem WG : Go.Proofs.SlLaysF0.n6 Tryz.prog Rq := {
 mixed := by kernel_rfl,
 f6 := ⟨Tryz.f116.name, by decide, Tryz.func116.trans (aV some (by kernel_rfl))⟩,
 f14 := ⟨Tryz.f178.name, by decide, Tryz.func178.trans (aV some (by kernel_rfl))⟩,
 f15 := Tryz.func179.trans (aV some (by kernel_rfl)),
 f20 := ⟨Tryz.f217.name, by decide, Tryz.func217.trans (aV some (by kernel_rfl))⟩,
 f21 := ⟨Tryz.f218.name, by decide, Tryz.func218.trans (aV some (by kernel_rfl))⟩,
 f22 := ⟨Tryz.f219.name, by decide, Tryz.func219.trans (aV some (by kernel_rfl))⟩,
 f23 := ⟨Tryz.f220.name, by decide, Tryz.func220.trans (aV some (by kernel_rfl))⟩,
 f24 := ⟨Tryz.f221.name, by decide, Tryz.func221.trans (aV some (by kernel_rfl))⟩,
 f25 := ⟨Tryz.f222.name, by decide, Tryz.func222.trans (aV some (by kernel_rfl))⟩,
 f26 := ⟨Tryz.f223.name, by decide, Tryz.func223.trans (aV some (by kernel_rfl))⟩,
 f27 := ⟨Tryz.f224.name, by decide, Tryz.func224.trans (aV some (by kernel_rfl))⟩,
 f28 := Tryz.func225.trans (aV some (by kernel_rfl)),
 f29 := Tryz.func226.trans (aV some (by kernel_rfl)),
 f46 := ⟨Tryz.f255.name, by decide, Tryz.func255.trans (aV some (by kernel_rfl))⟩,
 f47 := Tryz.func256.trans (aV some (by kernel_rfl)),
 f48 := Tryz.func257.trans (aV some (by kernel_rfl)),
 f49 := ⟨Tryz.f258.name, by decide, Tryz.func258.trans (aV some (by kernel_rfl))⟩,
 f50 := ⟨Tryz.f259.name, by decide, Tryz.func259.trans (aV some (by kernel_rfl))⟩,
 f57 := ⟨Tryz.f290.name, by decide, Tryz.func290.trans (aV some (by kernel_rfl))⟩,
 t0 := fg,
 a0 := iJ,
 z0 := gL,
 v0 := fx,
 t3 := iv,
 a3 := km,
 z3 := jW,
 v3 := iO,
 t4 := fN,
 a4 := jx,
 z4 := iW,
 v4 := gh,
 t5 := iw,
 a5 := ko,
 z5 := jX,
 v5 := iP,
 t9 := eG,
 a9 := gB,
 z9 := fO,
 v9 := eQ,
 t22 := Tryz.underlying22,
 a22 := Tryz.isAgg22,
 z22 := Tryz.sizeOf22,
 v22 := Tryz.zeroValue22,
 t25 := Tryz.underlying133,
 a25 := Tryz.isAgg133,
 z25 := Tryz.sizeOf133,
 v25 := Tryz.zeroValue133,
 t39 := gl,
 a39 := jH,
 z39 := je,
 v39 := gM,
 t45 := gm,
 a45 := jI,
 z45 := jf,
 v45 := gN,
 t46 := gn,
 a46 := jJ,
 z46 := jg,
 v46 := gO,
 t50 := gP,
 a50 := jY,
 z50 := jK,
 v50 := iy,
 t53 := gp,
 a53 := jL,
 z53 := jh,
 v53 := gQ,
 t55 := gq,
 a55 := jM,
 z55 := ji,
 v55 := gS,
 t66 := gr,
 a66 := jN,
 z66 := jj,
 v66 := gT,
 t70 := gu,
 a70 := jO,
 z70 := jk,
 v70 := gU,
 t76 := gv,
 a76 := jP,
 z76 := jl,
 v76 := gV,
 t77 := gw,
 a77 := jQ,
 z77 := jm,
 v77 := gW}
def Sq : Go.Shelf.Ren := ⟨fun | 6 => 276 | 15 => 179 | 14 => 296 | 28 => 225 | 29 => 226 | 20 => 301 | 21 => 302 | 22 => 303 | 23 => 304 | 24 => 305 | 25 => 306 | 26 => 307 | 27 => 308 | 46 => 310 | 47 => 256 | 48 => 257 | 49 => 311 | 50 => 312 | 57 => 313 | n => n, fun | 22 => 34 | 24 => 28 | 25 => 118 | 3 => 3 | 39 => 215 | 0 => 0 | 53 => 268 | 55 => 270 | 4 => 4 | 46 => 262 | 45 => 261 | 50 => 39 | 5 => 5 | 9 => 9 | 66 => 291 | 70 => 295 | 76 => 315 | 77 => 142 | n => n, fun | n => n⟩
theorem V3 : Go.Proofs.SlLaysF0.n6 Tryz.prog Sq := {
 mixed := by kernel_rfl,
 f6 := ⟨Tryz.f276.name, by decide, Tryz.func276.trans (aV some (by kernel_rfl))⟩,
 f14 := ⟨Tryz.f296.name, by decide, Tryz.func296.trans (aV some (by kernel_rfl))⟩,
 f15 := Tryz.func179.trans (aV some (by kernel_rfl)),
 f20 := ⟨Tryz.f301.name, by decide, Tryz.func301.trans (aV some (by kernel_rfl))⟩,
 f21 := ⟨Tryz.f302.name, by decide, Tryz.func302.trans (aV some (by kernel_rfl))⟩,
 f22 := ⟨Tryz.f303.name, by decide, Tryz.func303.trans (aV some (by kernel_rfl))⟩,
 f23 := ⟨Tryz.f304.name, by decide, Tryz.func304.trans (aV some (by kernel_rfl))⟩,
 f24 := ⟨Tryz.f305.name, by decide, Tryz.func305.trans (aV some (by kernel_rfl))⟩,
 f25 := ⟨Tryz.f306.name, by decide, Tryz.func306.trans (aV some (by kernel_rfl))⟩,
 f26 := ⟨Tryz.f307.name, by decide, Tryz.func307.trans (aV some (by kernel_rfl))⟩,
 f27 := ⟨Tryz.f308.name, by decide, Tryz.func308.trans (aV some (by kernel_rfl))⟩,
 f28 := Tryz.func225.trans (aV some (by kernel_rfl)),
 f29 := Tryz.func226.trans (aV some (by kernel_rfl)),
 f46 := ⟨Tryz.f310.name, by decide, Tryz.func310.trans (aV some (by kernel_rfl))⟩,
 f47 := Tryz.func256.trans (aV some (by kernel_rfl)),
 f48 := Tryz.func257.trans (aV some (by kernel_rfl)),
 f49 := ⟨Tryz.f311.name, by decide, Tryz.func311.trans (aV some (by kernel_rfl))⟩,
 f50 := ⟨Tryz.f312.name, by decide, Tryz.func312.trans (aV some (by kernel_rfl))⟩,
 f57 := ⟨Tryz.f313.name, by decide, Tryz.func313.trans (aV some (by kernel_rfl))⟩,
 t0 := fg,
 a0 := iJ,
 z0 := gL,
 v0 := fx,
 t3 := iv,
 a3 := km,
 z3 := jW,
 v3 := iO,
 t4 := fN,
 a4 := jx,
 z4 := iW,
 v4 := gh,
 t5 := iw,
 a5 := ko,
 z5 := jX,
 v5 := iP,
 t9 := eG,
 a9 := gB,
 z9 := fO,
 v9 := eQ,
 t22 := Tryz.underlying34,
 a22 := Tryz.isAgg34,
 z22 := Tryz.sizeOf34,
 v22 := Tryz.zeroValue34,
 t25 := Tryz.underlying118,
 a25 := Tryz.isAgg118,
 z25 := Tryz.sizeOf118,
 v25 := Tryz.zeroValue118,
 t39 := gl,
 a39 := jH,
 z39 := je,
 v39 := gM,
 t45 := gm,
 a45 := jI,
 z45 := jf,
 v45 := gN,
 t46 := gn,
 a46 := jJ,
 z46 := jg,
 v46 := gO,
 t50 := gP,
 a50 := jY,
 z50 := jK,
 v50 := iy,
 t53 := gp,
 a53 := jL,
 z53 := jh,
 v53 := gQ,
 t55 := gq,
 a55 := jM,
 z55 := ji,
 v55 := gS,
 t66 := gr,
 a66 := jN,
 z66 := jj,
 v66 := gT,
 t70 := gu,
 a70 := jO,
 z70 := jk,
 v70 := gU,
 t76 := gv,
 a76 := jP,
 z76 := jl,
 v76 := gV,
 t77 := gw,
 a77 := jQ,
 z77 := jm,
 v77 := gW}
def RV : Go.Shelf.Ren := ⟨fun | 6 => 182 | 8 => 179 | 9 => 229 | 19 => 225 | 20 => 226 | 21 => 260 | 22 => 261 | 23 => 262 | 24 => 263 | 25 => 264 | 26 => 265 | 27 => 266 | 28 => 267 | 29 => 268 | 36 => 291 | 31 => 256 | 32 => 257 | 37 => 292 | 38 => 293 | 39 => 294 | 41 => 300 | n => n, fun | 27 => 112 | 29 => 9 | 3 => 3 | 32 => 215 | 26 => 112 | 0 => 0 | 44 => 268 | 46 => 270 | 4 => 4 | 36 => 262 | 35 => 261 | 41 => 39 | 5 => 5 | 9 => 9 | 53 => 291 | 57 => 295 | 63 => 315 | 64 => 142 | n => n, fun | n => n⟩
theorem SK : Go.Proofs.SlLaysM.n6 Tryz.prog RV := {
 mixed := by kernel_rfl,
 f6 := ⟨Tryz.f182.name, by decide, Tryz.func182.trans (aV some (by kernel_rfl))⟩,
 f8 := Tryz.func179.trans (aV some (by kernel_rfl)),
 f9 := ⟨Tryz.f229.name, by decide, Tryz.func229.trans (aV some (by kernel_rfl))⟩,
 f19 := Tryz.func225.trans (aV some (by kernel_rfl)),
 f20 := Tryz.func226.trans (aV some (by kernel_rfl)),
 f21 := ⟨Tryz.f260.name, by decide, Tryz.func260.trans (aV some (by kernel_rfl))⟩,
 f22 := ⟨Tryz.f261.name, by decide, Tryz.func261.trans (aV some (by kernel_rfl))⟩,
 f23 := ⟨Tryz.f262.name, by decide, Tryz.func262.trans (aV some (by kernel_rfl))⟩,
 f24 := ⟨Tryz.f263.name, by decide, Tryz.func263.trans (aV some (by kernel_rfl))⟩,
 f25 := ⟨Tryz.f264.name, by decide, Tryz.func264.trans (aV some (by kernel_rfl))⟩,
 f26 := ⟨Tryz.f265.name, by decide, Tryz.func265.trans (aV some (by kernel_rfl))⟩,
 f27 := ⟨Tryz.f266.name, by decide, Tryz.func266.trans (aV some (by kernel_rfl))⟩,
 f28 := ⟨Tryz.f267.name, by decide, Tryz.func267.trans (aV some (by kernel_rfl))⟩,
 f29 := ⟨Tryz.f268.name, by decide, Tryz.func268.trans (aV some (by kernel_rfl))⟩,
 f31 := Tryz.func256.trans (aV some (by kernel_rfl)),
 f32 := Tryz.func257.trans (aV some (by kernel_rfl)),
 f36 := ⟨Tryz.f291.name, by decide, Tryz.func291.trans (aV some (by kernel_rfl))⟩,
 f37 := ⟨Tryz.f292.name, by decide, Tryz.func292.trans (aV some (by kernel_rfl))⟩,
 f38 := ⟨Tryz.f293.name, by decide, Tryz.func293.trans (aV some (by kernel_rfl))⟩,
 f39 := ⟨Tryz.f294.name, by decide, Tryz.func294.trans (aV some (by kernel_rfl))⟩,
 f41 := ⟨Tryz.f300.name, by decide, Tryz.func300.trans (aV some (by kernel_rfl))⟩,
 t0 := fg,
 a0 := iJ,
 z0 := gL,
 v0 := fx,
 t3 := iv,
 a3 := km,
 z3 := jW,
 v3 := iO,
 t4 := fN,
 a4 := jx,
 z4 := iW,
 v4 := gh,
 t5 := iw,
 a5 := ko,
 z5 := jX,
 v5 := iP,
 t9 := eG,
 a9 := gB,
 z9 := fO,
 v9 := eQ,
 t26 := jn,
 a26 := Tryz.isAgg112,
 z26 := Tryz.sizeOf112,
 v26 := jz,
 t27 := jn,
 a27 := Tryz.isAgg112,
 z27 := Tryz.sizeOf112,
 v27 := jz,
 t29 := eG,
 a29 := gB,
 z29 := fO,
 v29 := eQ,
 t32 := gl,
 a32 := jH,
 z32 := je,
 v32 := gM,
 t35 := gm,
 a35 := jI,
 z35 := jf,
 v35 := gN,
 t36 := gn,
 a36 := jJ,
 z36 := jg,
 v36 := gO,
 t41 := gP,
 a41 := jY,
 z41 := jK,
 v41 := iy,
 t44 := gp,
 a44 := jL,
 z44 := jh,
 v44 := gQ,
 t46 := gq,
 a46 := jM,
 z46 := ji,
 v46 := gS,
 t53 := gr,
 a53 := jN,
 z53 := jj,
 v53 := gT,
 t57 := gu,
 a57 := jO,
 z57 := jk,
 v57 := gU,
 t63 := gv,
 a63 := jP,
 z63 := jl,
 v63 := gV,
 t64 := gw,
 a64 := jQ,
 z64 := jm,
 v64 := gW}
def UY : Go.Shelf.Ren := ⟨fun | 7 => 120 | 10 => 183 | n => n, fun | 23 => 175 | 26 => 9 | 3 => 4 | 28 => 180 | 0 => 0 | 27 => 179 | 33 => 194 | 4 => 4 | n => n, fun | n => n⟩
theorem UX : Go.Proofs.SlLaysZ.n7 Tryz.prog UY := {
 mixed := by kernel_rfl,
 f7 := ⟨Tryz.f120.name, by decide, Tryz.func120.trans (aV some (by kernel_rfl))⟩,
 f10 := ⟨Tryz.f183.name, by decide, Tryz.func183.trans (aV some (by kernel_rfl))⟩,
 t0 := fg,
 a0 := iJ,
 z0 := gL,
 v0 := fx,
 t4 := fN,
 a4 := jx,
 z4 := iW,
 v4 := gh,
 t23 := Tryz.underlying175,
 a23 := Tryz.isAgg175,
 z23 := Tryz.sizeOf175,
 v23 := Tryz.zeroValue175,
 t26 := eG,
 a26 := gB,
 z26 := fO,
 v26 := eQ,
 t27 := Tryz.underlying179,
 a27 := Tryz.isAgg179,
 z27 := Tryz.sizeOf179,
 v27 := Tryz.zeroValue179,
 t28 := Tryz.underlying180,
 a28 := Tryz.isAgg180,
 z28 := Tryz.sizeOf180,
 v28 := Tryz.zeroValue180,
 t33 := Tryz.underlying194,
 a33 := Tryz.isAgg194,
 z33 := Tryz.sizeOf194,
 v33 := Tryz.zeroValue194}
def Vp : Go.Shelf.Ren := ⟨fun | 6 => 119 | 8 => 181 | 9 => 182 | 11 => 228 | 13 => 179 | 12 => 229 | 23 => 225 | 24 => 226 | 14 => 260 | 15 => 261 | 16 => 262 | 17 => 263 | 18 => 264 | 19 => 265 | 20 => 266 | 21 => 267 | 22 => 268 | 25 => 291 | 26 => 256 | 27 => 257 | 28 => 292 | 29 => 293 | 30 => 294 | 31 => 300 | n => n, fun | 26 => 9 | 28 => 180 | 24 => 112 | 0 => 0 | 3 => 3 | 37 => 215 | 48 => 268 | 50 => 270 | 4 => 4 | 40 => 262 | 39 => 261 | 45 => 39 | 5 => 5 | 9 => 9 | 51 => 291 | 55 => 295 | 57 => 315 | 58 => 142 | 33 => 194 | n => n, fun | n => n⟩
theorem VJ : Go.Proofs.SlLaysZ.n6 Tryz.prog Vp := {
 mixed := by kernel_rfl,
 f6 := ⟨Tryz.f119.name, by decide, Tryz.func119.trans (aV some (by kernel_rfl))⟩,
 f8 := ⟨Tryz.f181.name, by decide, Tryz.func181.trans (aV some (by kernel_rfl))⟩,
 f11 := ⟨Tryz.f228.name, by decide, Tryz.func228.trans (aV some (by kernel_rfl))⟩,
 t0 := fg,
 a0 := iJ,
 z0 := gL,
 v0 := fx,
 t24 := jn,
 a24 := Tryz.isAgg112,
 z24 := Tryz.sizeOf112,
 v24 := jz,
 t26 := eG,
 a26 := gB,
 z26 := fO,
 v26 := eQ,
 t28 := Tryz.underlying180,
 a28 := Tryz.isAgg180,
 z28 := Tryz.sizeOf180,
 v28 := Tryz.zeroValue180,
 i26 := by kernel_rfl}
def RS : Go.Shelf.Ren := ⟨fun | 6 => 195 | 15 => 179 | 14 => 244 | 28 => 225 | 29 => 226 | 20 => 278 | 21 => 279 | 22 => 280 | 23 => 281 | 24 => 282 | 25 => 283 | 26 => 284 | 27 => 285 | 46 => 297 | 47 => 256 | 48 => 257 | 49 => 298 | 50 => 299 | 57 => 309 | n => n, fun | 22 => 99 | 24 => 34 | 25 => 246 | 3 => 3 | 39 => 215 | 0 => 0 | 53 => 268 | 55 => 270 | 4 => 4 | 46 => 262 | 45 => 261 | 50 => 39 | 5 => 5 | 9 => 9 | 66 => 291 | 70 => 295 | 76 => 315 | 77 => 142 | n => n, fun | n => n⟩
theorem Wz : Go.Proofs.SlLaysF.n6 Tryz.prog RS := {
 mixed := by kernel_rfl,
 f6 := ⟨Tryz.f195.name, by decide, Tryz.func195.trans (aV some (by kernel_rfl))⟩,
 f14 := ⟨Tryz.f244.name, by decide, Tryz.func244.trans (aV some (by kernel_rfl))⟩,
 f15 := Tryz.func179.trans (aV some (by kernel_rfl)),
 f20 := ⟨Tryz.f278.name, by decide, Tryz.func278.trans (aV some (by kernel_rfl))⟩,
 f21 := ⟨Tryz.f279.name, by decide, Tryz.func279.trans (aV some (by kernel_rfl))⟩,
 f22 := ⟨Tryz.f280.name, by decide, Tryz.func280.trans (aV some (by kernel_rfl))⟩,
 f23 := ⟨Tryz.f281.name, by decide, Tryz.func281.trans (aV some (by kernel_rfl))⟩,
 f24 := ⟨Tryz.f282.name, by decide, Tryz.func282.trans (aV some (by kernel_rfl))⟩,
 f25 := ⟨Tryz.f283.name, by decide, Tryz.func283.trans (aV some (by kernel_rfl))⟩,
 f26 := ⟨Tryz.f284.name, by decide, Tryz.func284.trans (aV some (by kernel_rfl))⟩,
 f27 := ⟨Tryz.f285.name, by decide, Tryz.func285.trans (aV some (by kernel_rfl))⟩,
 f28 := Tryz.func225.trans (aV some (by kernel_rfl)),
 f29 := Tryz.func226.trans (aV some (by kernel_rfl)),
 f46 := ⟨Tryz.f297.name, by decide, Tryz.func297.trans (aV some (by kernel_rfl))⟩,
 f47 := Tryz.func256.trans (aV some (by kernel_rfl)),
 f48 := Tryz.func257.trans (aV some (by kernel_rfl)),
 f49 := ⟨Tryz.f298.name, by decide, Tryz.func298.trans (aV some (by kernel_rfl))⟩,
 f50 := ⟨Tryz.f299.name, by decide, Tryz.func299.trans (aV some (by kernel_rfl))⟩,
 f57 := ⟨Tryz.f309.name, by decide, Tryz.func309.trans (aV some (by kernel_rfl))⟩,
 t0 := fg,
 a0 := iJ,
 z0 := gL,
 v0 := fx,
 t3 := iv,
 a3 := km,
 z3 := jW,
 v3 := iO,
 t4 := fN,
 a4 := jx,
 z4 := iW,
 v4 := gh,
 t5 := iw,
 a5 := ko,
 z5 := jX,
 v5 := iP,
 t9 := eG,
 a9 := gB,
 z9 := fO,
 v9 := eQ,
 t22 := Tryz.underlying99,
 a22 := Tryz.isAgg99,
 z22 := Tryz.sizeOf99,
 v22 := Tryz.zeroValue99,
 a24 := Tryz.isAgg34,
 z24 := Tryz.sizeOf34,
 t25 := Tryz.underlying246,
 a25 := Tryz.isAgg246,
 z25 := Tryz.sizeOf246,
 v25 := Tryz.zeroValue246,
 t39 := gl,
 a39 := jH,
 z39 := je,
 v39 := gM,
 t45 := gm,
 a45 := jI,
 z45 := jf,
 v45 := gN,
 t46 := gn,
 a46 := jJ,
 z46 := jg,
 v46 := gO,
 t50 := gP,
 a50 := jY,
 z50 := jK,
 v50 := iy,
 t53 := gp,
 a53 := jL,
 z53 := jh,
 v53 := gQ,
 t55 := gq,
 a55 := jM,
 z55 := ji,
 v55 := gS,
 t66 := gr,
 a66 := jN,
 z66 := jj,
 v66 := gT,
 t70 := gu,
 a70 := jO,
 z70 := jk,
 v70 := gU,
 t76 := gv,
 a76 := jP,
 z76 := jl,
 v76 := gV,
 t77 := gw,
 a77 := jQ,
 z77 := jm,
 v77 := gW}
end Go.Proofs.YtbnbdigcbldfhaaGreat
namespace Go.Proofs.YtbnbdigcbldfhaaGreat
open Go.IntKind renaming wrap → wi0
open Go.RowKit
set_option maxRecDepth 10000
noncomputable section
structure kw where
 kE : ByteArray
 kT : ByteArray
def kx (x : kw) : List Value := [.string x.kE, .string x.kT]
def kN (x y : kw) : Bool := (ma x.kE y.kE) && ((ma x.kT y.kT) && true)
theorem kP {x y : kw} : kN x y = true ↔ x = y := by
 cases x; cases y; simp [kN, mM]
theorem mr (x : kw) : (kx x).length = 2 := rfl
theorem mE (x : kw) : ∀ u ∈ kx x, u.oneCell' = true := by
 intro u hu
 simp only [kx, aR, di, fw] at hu
 rcases hu with rfl | rfl <;> rfl
structure ky where
 Kind : Int
 Head : kw
 lx : ByteArray
 B : kw
 C : kw
 lU : ByteArray
def kC (x : ky) : List Value := [.int .i64 x.Kind, .string x.Head.kE, .string x.Head.kT, .string x.lx, .string x.B.kE, .string x.B.kT, .string x.C.kE, .string x.C.kT, .string x.lU]
def oI (x y : ky) : Bool := (x.Kind == y.Kind) && ((kN x.Head y.Head) && ((ma x.lx y.lx) && ((kN x.B y.B) && ((kN x.C y.C) && ((ma x.lU y.lU) && true)))))
theorem xe {x y : ky} : oI x y = true ↔ x = y := by
 cases x; cases y; simp [oI, mM, kP]
theorem mW (x : ky) : (kC x).length = 9 := rfl
theorem nI (x : ky) : ∀ u ∈ kC x, u.oneCell' = true := by
 intro u hu
 simp only [kC, aR, di, fw] at hu
 rcases hu with rfl | rfl | rfl | rfl | rfl | rfl | rfl | rfl | rfl <;> rfl
structure kB where
 kw : kw
 lx : ByteArray
def kK (x : kB) : List Value := [.string x.kw.kE, .string x.kw.kT, .string x.lx]
def nq (x y : kB) : Bool := (kN x.kw y.kw) && ((ma x.lx y.lx) && true)
theorem mH {x y : kB} : nq x y = true ↔ x = y := by
 cases x; cases y; simp [nq, mM, kP]
theorem nf (x : kB) : (kK x).length = 3 := rfl
theorem uw (x : kB) : ∀ u ∈ kK x, u.oneCell' = true := by
 intro u hu
 simp only [kK, aR, di, fw] at hu
 rcases hu with rfl | rfl | rfl <;> rfl
structure kV where
 ky : ky
 kB : kB
def kX (x : kV) : List Value := [.int .i64 x.ky.Kind, .string x.ky.Head.kE, .string x.ky.Head.kT, .string x.ky.lx, .string x.ky.B.kE, .string x.ky.B.kT, .string x.ky.C.kE, .string x.ky.C.kT, .string x.ky.lU, .string x.kB.kw.kE, .string x.kB.kw.kT, .string x.kB.lx]
def Df (x y : kV) : Bool := (oI x.ky y.ky) && ((nq x.kB y.kB) && true)
theorem Io {x y : kV} : Df x y = true ↔ x = y := by
 cases x; cases y; simp [Df, mM, xe, mH]
theorem oO (x : kV) : (kX x).length = 12 := rfl
theorem tE (x : kV) : ∀ u ∈ kX x, u.oneCell' = true := by
 intro u hu
 simp only [kX, aR, di, fw] at hu
 rcases hu with rfl | rfl | rfl | rfl | rfl | rfl | rfl | rfl | rfl | rfl | rfl | rfl <;> rfl
structure UQ where
 Zp : Int
 Zq : Int
structure nu where
 e : Int
structure Key where
 lx : ByteArray
 Key : List Int
structure Signed where
 ky : ky
 Tag : List Int
structure Formula where
 Op : Int
 K : Int
 kw : kw
 Kids : List Formula
structure nS where
 Signed : Signed
 lo : Formula
structure vd where
 kw : kw
 lo : Formula
 qv : List ky
structure lR where
 Name : ByteArray
 nr : List nS
 oq : List vd
structure N2 where
 kE : lR
 Client : lR
 Formula : Formula
 V4 : Int
 UC : UQ
 PD : Int
 Ug : Int
 RC : Int
 Keys : List Key
structure tH where
 lR : lR
 og : ByteArray
 Room : Int
 lH : List ky
 Shown : List ky
 mA : List kw
 qz : List kw
def pt (a0 : ByteArray) (a : Int) : Option Int :=
 some (zA a0 a)
def tb (a0 : ByteArray) (a : Int) : Option Int :=
 ((pt a0 a).bind fun c => some c)
def xv  : List Int → Option Bool
 | [] => some true
 | d :: a => ((tb (⟨#[97, 98, 99, 100, 101, 102, 103, 104, 105, 106, 107, 108, 109, 110, 111, 112, 113, 114, 115, 116, 117, 118, 119, 120, 121, 122, 48, 49, 50, 51, 52, 53, 54, 55, 56, 57, 45]⟩ : ByteArray) d).bind fun c => (if (decide (c < 0)) then some false else (xv a)))
def EE (a0 : ByteArray) : Option Bool :=
 ((FB a0).bind fun a => xv a)
def qi (a0 : ByteArray) : Option Bool :=
 ((if (decide ((a0.size : Int) ≥ 1)) then some (decide ((a0.size : Int) ≤ 16)) else some false).bind fun x2 => ((if x2 then ((CA a0 0).bind fun a => ((tb (⟨#[97, 98, 99, 100, 101, 102, 103, 104, 105, 106, 107, 108, 109, 110, 111, 112, 113, 114, 115, 116, 117, 118, 119, 120, 121, 122]⟩ : ByteArray) (a.toNat : Int)).bind fun d => some (decide (d ≥ 0)))) else some false).bind fun g => ((if g then ((EE a0).bind fun c => some c) else some false).bind fun h => some h)))
def pG (a0 : List Int) : Option (List Int) :=
 ((mJ 1 ([]) a0).bind fun a => some a)
def pA (a0 : kw) : Option Bool :=
 ((qi a0.kE).bind fun d => ((if d then ((qi a0.kT).bind fun a => some a) else some false).bind fun c => some c))
def nC (a0 a : ByteArray) : Option Int :=
 some (oz a0 a)
def pN (a0 a : ByteArray) : Option Int :=
 ((nC a0 a).bind fun c => some c)
def pc  : List Int → Option Int
 | [] => some 0
 | a :: c => (if (a != 0) then some a else (pc c))
def se (a0 : List Int) : Option Int :=
 pc a0
def nw (a0 g : kw) : Option Int :=
 ((pN a0.kE g.kE).bind fun a => ((pN a0.kT g.kT).bind fun c => ((se ([a, c])).bind fun d => some d)))
def pD (a0 : ky) : Option Bool :=
 ((pA a0.Head).bind fun A => (((if (a0.Kind == 1) then ((if A then ((qi a0.lx).bind fun c => some c) else some false).bind fun q => some (Sum.inr (q, (⟨a0.Kind, a0.Head, a0.lx, (⟨zS, zS⟩ : kw), (⟨zS, zS⟩ : kw), zS⟩ : ky)))) else (if (a0.Kind == 2) then ((if A then ((pA a0.B).bind fun d => some d) else some false).bind fun t => some (Sum.inr (t, (⟨a0.Kind, a0.Head, zS, a0.B, (⟨zS, zS⟩ : kw), zS⟩ : ky)))) else (if (a0.Kind == 3) then ((if A then ((pA a0.B).bind fun h => some h) else some false).bind fun u => ((if u then some (ma a0.B.kE a0.Head.kE) else some false).bind fun v => ((if v then ((qi a0.lU).bind fun g => some g) else some false).bind fun w => some (Sum.inr (w, (⟨a0.Kind, a0.Head, zS, a0.B, (⟨zS, zS⟩ : kw), a0.lU⟩ : ky)))))) else (if (a0.Kind == 4) then ((if A then ((pA a0.B).bind fun k => some k) else some false).bind fun x => ((if x then ((pA a0.C).bind fun j => some j) else some false).bind fun y => ((if y then ((nw a0.B a0.C).bind fun i => some (decide (i < 0))) else some false).bind fun z => some (Sum.inr (z, (⟨a0.Kind, a0.Head, zS, a0.B, a0.C, zS⟩ : ky)))))) else some (Sum.inl false))))) : Option (Bool ⊕ (Bool × ky))).bind fun s => match s with | .inl a => some a | .inr (m, n) => ((if m then some (oI n a0) else some false).bind fun o => some o)))
def oG  : Nat → Int → (List Int) → Option (Bool × (List Int))
 | 0, _, _ => none
 | h + 1, a, d => (if (decide (a ≥ 128)) then ((mJ 1 d ([(IntKind.u8.wrap (BitVec.ofInt (IntKind.bits .u8) (IntKind.u8.wrap a) ||| BitVec.ofInt (IntKind.bits .u8) 128).toNat)])).bind fun g => (oG h (Int.fdiv a (2 ^ min (Int.toNat 7) (IntKind.bits .i64))) g)) else ((mJ 1 d ([(IntKind.u8.wrap a)])).bind fun c => some (true, c)))
def mV (a : List Int) (c : Int) : Option (Bool × (List Int)) :=
 (if (decide (c < 0)) then some (false, a) else oG lC c a)
def xm (a c : List Int) : Option (Bool × (List Int)) :=
 (if (decide ((c.length : Int) > 2048)) then some (false, a) else ((mV a (c.length : Int)).bind fun g => ((mJ 1 g.2 c).bind fun d => some (true, d))))
def rj (a : List Int) (i : ByteArray) : Option (Bool × (List Int)) :=
 ((qi i).bind fun j => (((if j then ((FB i).bind fun g => ((xm a g).bind fun c => some (c.1, c.2))) else some (false, a)) : Option (Bool × (List Int))).bind fun (h, d) => some (h, d)))
def oU (a : List Int) (h : kw) : Option (Bool × (List Int)) :=
 ((pA h).bind fun m => (((if m then ((rj a h.kE).bind fun g => some (g.1, g.2)) else some (false, a)) : Option (Bool × (List Int))).bind fun (j, c) => (((if j then ((rj c h.kT).bind fun d => some (d.1, d.2)) else some (false, c)) : Option (Bool × (List Int))).bind fun (k, i) => some (k, i))))
def qk (a : List Int) : Option (List Int) :=
 ((pG a).bind fun c => some c)
def vT (a0 : ky) : Option (List Int) :=
 ((pD a0).bind fun n => (if (!n) then some [] else ((mV ([]) a0.Kind).bind fun o => ((oU o.2 a0.Head).bind fun a => (((if (a0.Kind == 1) then ((rj a.2 a0.lx).bind fun g => some g.2) else (if (a0.Kind == 2) then ((oU a.2 a0.B).bind fun h => some h.2) else (if (a0.Kind == 3) then ((oU a.2 a0.B).bind fun i => ((rj i.2 a0.lU).bind fun j => some j.2)) else (if (a0.Kind == 4) then ((oU a.2 a0.B).bind fun k => ((oU k.2 a0.C).bind fun m => some m.2)) else some a.2)))) : Option (List Int)).bind fun c => ((qk c).bind fun d => some d))))))
def ta (a0 : List ky) : Option (List ky) :=
 ((mJ 136 ([]) a0).bind fun a => some a)
def pw (f1 : ky → Option Bool) : List ky → Nat → Option Int
 | [], _ => some (-1)
 | d :: a, i35 => ((f1 d).bind fun c => (if c then some (i35 : Int) else (pw f1 a (i35 + 1))))
def wi (a0 : List ky) (f1 : ky → Option Bool) : Option Int :=
 pw f1 a0 0
def nX (f1 : ky → Option Bool) : Nat → (List ky) → Int → Int → Option (List ky)
 | 0, _, _, _ => none
 | n321 + 1, c, a, d => (if (decide (d < (c.length : Int))) then ((((mx c d).bind fun g => ((f1 g).bind fun i => (if (!i) then ((mx c a).bind fun k => some ((c.set (Int.toNat a) g), (wi0 .i64 (a + 1)))) else some (c, a)))) : Option ((List ky) × Int)).bind fun (h, j) => (nX f1 n321 h j (wi0 .i64 (d + 1)))) else ((nG (decide (0 ≤ a) && decide (a ≤ (c.length : Int)))).bind fun _ => ((nG (decide (0 ≤ a) && decide (a ≤ ((oA c (Int.toNat a) (⟨0, (⟨zS, zS⟩ : kw), zS, (⟨zS, zS⟩ : kw), (⟨zS, zS⟩ : kw), zS⟩ : ky)).length : Int)))).bind fun _ => some ((oA c (Int.toNat a) (⟨0, (⟨zS, zS⟩ : kw), zS, (⟨zS, zS⟩ : kw), (⟨zS, zS⟩ : kw), zS⟩ : ky)).take (Int.toNat a)))))
def so (a0 : List ky) (f1 : ky → Option Bool) : Option (List ky) :=
 ((wi a0 f1).bind fun a => (if (a == (-1)) then some a0 else nX f1 lC a0 a (wi0 .i64 (a + 1))))
def Ae (a0 : ky) : Option Bool :=
 ((pD a0).bind fun a => some (!a))
def Bl (a0 a : List Int) : Option Int :=
 some (AH a0 a)
def vH (a0 g : ky) : Option Int :=
 ((vT a0).bind fun a => ((vT g).bind fun c => ((Bl a c).bind fun d => some d)))
def oT (c : Int) : Nat → (List ky) → Int → Int → Option ((List ky) × Int)
 | 0, _, _, _ => none
 | i + 1, a, d, g => (if (decide (g < ((a.length - (Int.toNat c) : Nat) : Int))) then ((((mx (a.drop (Int.toNat c)) g).bind fun k => ((mx (a.drop (Int.toNat c)) (wi0 .i64 (g - 1))).bind fun m => (if (!(oI k m)) then ((mx (a.drop (Int.toNat c)) g).bind fun n => ((mx a d).bind fun o => some ((a.set (Int.toNat d) n), (wi0 .i64 (d + 1))))) else some (a, d)))) : Option ((List ky) × Int)).bind fun (h, j) => (oT c i h j (wi0 .i64 (g + 1)))) else some (a, d))
def oY (a0 : List ky) : Nat → Int → Option (List ky)
 | 0, _ => none
 | g + 1, a => (if (decide (a < (a0.length : Int))) then ((mx a0 a).bind fun h => ((mx a0 (wi0 .i64 (a - 1))).bind fun i => (if (oI h i) then ((nG (decide (0 ≤ a) && decide (a ≤ (a0.length : Int)))).bind fun _ => ((oT a lC a0 a 1).bind fun (d, c) => ((nG (decide (0 ≤ c) && decide (c ≤ (d.length : Int)))).bind fun _ => ((nG (decide (0 ≤ c) && decide (c ≤ ((oA d (Int.toNat c) (⟨0, (⟨zS, zS⟩ : kw), zS, (⟨zS, zS⟩ : kw), (⟨zS, zS⟩ : kw), zS⟩ : ky)).length : Int)))).bind fun _ => some ((oA d (Int.toNat c) (⟨0, (⟨zS, zS⟩ : kw), zS, (⟨zS, zS⟩ : kw), (⟨zS, zS⟩ : kw), zS⟩ : ky)).take (Int.toNat c)))))) else (oY a0 g (wi0 .i64 (a + 1)))))) else some a0)
def uE (a0 : List ky) : Option (List ky) :=
 (if (decide ((a0.length : Int) < 2)) then some a0 else oY a0 lC 1)
def Ba (a0 : List ky) : Option (List ky) :=
 ((ta a0).bind fun g => ((so g (fun (x : ky) => Ae x)).bind fun a => ((yA (fun (x : (ky × ky)) => vH x.1 x.2) a).bind fun c => ((uE c).bind fun d => some d))))
def qS (d : ky) : List ky → Nat → Option Int
 | [], _ => some (-1)
 | c :: a, i46 => (if (oI d c) then some (i46 : Int) else (qS d a (i46 + 1)))
def yt (a0 : List ky) (a : ky) : Option Int :=
 qS a a0 0
def xc (a0 : List ky) (a : ky) : Option Bool :=
 ((yt a0 a).bind fun c => some (decide (c ≥ 0)))
def zz (a0 : List ky) (a : ky) : Option Bool :=
 ((xc a0 a).bind fun c => some c)
def A0 (a0 : ky) : Option (List kw) :=
 ((pD a0).bind fun h => (if (!h) then some [] else (((if (a0.Kind != 1) then ((mJ 32 ([a0.Head]) ([a0.B])).bind fun g => some g) else some ([a0.Head])) : Option (List kw)).bind fun a => (((if (a0.Kind == 4) then ((mJ 32 a ([a0.C])).bind fun d => some d) else some a) : Option (List kw)).bind fun c => some c))))
def po (i : ky) (a : List (ByteArray × (List ky))) (g : List ky) : List kw → (List (kw × (List ky))) → Option ((List ky) × (List (kw × (List ky))) × (List (ByteArray × (List ky))))
 | [], c => (if (i.Kind == 3) then ((mJ 136 ((mi ma a i.lU).getD []) ([i])).bind fun k => some (g, c, (oh ma a i.lU k))) else some (g, c, a))
 | d :: h, c => ((mJ 136 ((mi kN c d).getD []) ([i])).bind fun j => (po i a g h (oh kN c d j)))
def vt (i : List (kw × (List (ByteArray × Bool)))) (a : List ky) (d : List (kw × (List ky))) (c : List (ByteArray × (List ky))) (g : List kB) (m : Int) (j : ky) : Option ((List ky) × (List (kw × (List ky))) × (List (ByteArray × (List ky)))) :=
 ((mJ 136 a ([j])).bind fun k => ((A0 j).bind fun h => ((nG (decide (0 ≤ 1) && decide (1 ≤ (h.length : Int)))).bind fun _ => po j c k (h.drop (Int.toNat 1)) d)))
def oC (a : List (kw × (List (ByteArray × Bool)))) (g : List ky) (i : List (kw × (List ky))) (h : List (ByteArray × (List ky))) (c : List kB) (d : Int) (j : kw) (a2 : ByteArray) : Option ((List (kw × (List (ByteArray × Bool)))) × (List kB) × Int) :=
 (if (zx ma ((mi kN a j).getD []) a2 false) then some (a, c, d) else (((if (mi kN a j).isNone then ((I2 kN a j ([])).bind fun k => some k) else some a) : Option (List (kw × (List (ByteArray × Bool))))).bind fun m => ((IE kN ma m j a2 true).bind fun n => ((mJ 48 c ([(⟨j, a2⟩ : kB)])).bind fun o => some (n, o, (wi0 .i64 (d + 1)))))))
def pE (a0 : List (ByteArray × Bool)) : Option Unit :=
 some ()
def rT (a : List (kw × (List (ByteArray × Bool)))) (c : List ky) (h : List (kw × (List ky))) (d : List (ByteArray × (List ky))) (g : List kB) (j : Int) (k : kw) : Option (List ByteArray) :=
 ((pE ((mi kN a k).getD [])).bind fun m => ((Jf ((mi kN a k).getD [])).bind fun i => some i))
def qW (a : List ky) (d : List (kw × (List ky))) (c : List (ByteArray × (List ky))) (a2 : kw) : List ByteArray → (List (kw × (List (ByteArray × Bool)))) → (List kB) → Int → Option ((List (kw × (List (ByteArray × Bool)))) × (List kB) × Int)
 | [], g, h, j => some (g, h, j)
 | m :: k, g, h, j => ((oC g a d c h j a2 m).bind fun i => (qW a d c a2 k i.1 i.2.1 i.2.2))
def we (h : List (kw × (List (ByteArray × Bool)))) (a : List ky) (g : List (kw × (List ky))) (c : List (ByteArray × (List ky))) (d : List kB) (i : Int) (j a2 : kw) : Option ((List (kw × (List (ByteArray × Bool)))) × (List kB) × Int) :=
 ((rT h a g c d i j).bind fun k => qW a g c a2 k h d i)
def sZ (a : List (kw × (List (ByteArray × Bool)))) (d : List ky) (h : List (kw × (List ky))) (g : List (ByteArray × (List ky))) (c : List kB) (i : Int) (j : ky) (a2 : kB) : Option ((List (kw × (List (ByteArray × Bool)))) × (List kB) × Int) :=
 (if (j.Kind == 2) then ((oC a d h g c i j.Head a2.lx).bind fun n => some (n.1, n.2.1, n.2.2)) else (if (j.Kind == 3) then ((we a d h g c i (⟨a2.lx, j.lU⟩ : kw) j.Head).bind fun k => some (k.1, k.2.1, k.2.2)) else (if (j.Kind == 4) then ((if (zx ma ((mi kN a j.B).getD []) a2.lx false) then some (zx ma ((mi kN a j.C).getD []) a2.lx false) else some false).bind fun o => (if o then ((oC a d h g c i j.Head a2.lx).bind fun m => some (m.1, m.2.1, m.2.2)) else some (a, c, i))) else some (a, c, i))))
def qa (a : List ky) (d : List (kw × (List ky))) (c : List (ByteArray × (List ky))) (n : ky) : List ByteArray → (List (kw × (List (ByteArray × Bool)))) → (List kB) → Int → Option ((List (kw × (List (ByteArray × Bool)))) × (List kB) × Int)
 | [], g, h, j => some (g, h, j)
 | m :: k, g, h, j => ((sZ g a d c h j n (⟨n.B, m⟩ : kB)).bind fun i => (qa a d c n k i.1 i.2.1 i.2.2))
def uC (h : List (kw × (List (ByteArray × Bool)))) (a : List ky) (g : List (kw × (List ky))) (c : List (ByteArray × (List ky))) (d : List kB) (i : Int) (j : ky) : Option ((List (kw × (List (ByteArray × Bool)))) × (List kB) × Int) :=
 (if (j.Kind == 1) then ((oC h a g c d i j.Head j.lx).bind fun m => some (m.1, m.2.1, m.2.2)) else ((rT h a g c d i j.B).bind fun k => qa a g c j k h d i))
def oH (i : kB) (a : List ky) (d : List (kw × (List ky))) (c : List (ByteArray × (List ky))) : List ky → (List (kw × (List (ByteArray × Bool)))) → (List kB) → Int → Option ((List (kw × (List (ByteArray × Bool)))) × (List kB) × Int)
 | [], g, h, j => some (g, h, j)
 | n :: m, g, h, j => (if (zx ma ((mi kN g n.B).getD []) i.kw.kE false) then ((oC g a d c h j n.Head i.lx).bind fun k => (oH i a d c m k.1 k.2.1 k.2.2)) else (oH i a d c m g h j))
def pT (a : List ky) (d : List (kw × (List ky))) (c : List (ByteArray × (List ky))) (k : kB) : List ky → (List (kw × (List (ByteArray × Bool)))) → (List kB) → Int → Option ((List (kw × (List (ByteArray × Bool)))) × (List kB) × Int)
 | [], g, h, j => some (g, h, j)
 | n :: m, g, h, j => ((sZ g a d c h j n k).bind fun i => (pT a d c k m i.1 i.2.1 i.2.2))
def nP (d : List ky) (c : List (kw × (List ky))) (a : List (ByteArray × (List ky))) : Nat → (List (kw × (List (ByteArray × Bool)))) → (List kB) → Int → Option ((List (kw × (List (ByteArray × Bool)))) × (List kB) × Int)
 | 0, _, _, _ => none
 | q + 1, i, g, j => (if (decide ((g.length : Int) > 0)) then ((mx g 0).bind fun h => ((nG (decide (0 ≤ 1) && decide (1 ≤ (g.length : Int)))).bind fun _ => ((pT d c a h ((mi kN c h.kw).getD []) i (g.drop (Int.toNat 1)) j).bind fun (k, m, s) => ((oH h d c a ((mi ma a h.kw.kT).getD []) k m s).bind fun (n, o, t) => (nP d c a q n o t))))) else some (i, g, j))
def wY (h : List (kw × (List (ByteArray × Bool)))) (a : List ky) (g : List (kw × (List ky))) (c : List (ByteArray × (List ky))) (d : List kB) (i : Int) : Option ((List (kw × (List (ByteArray × Bool)))) × (List kB) × Int) :=
 nP a g c lC h d i
def oF (n : Int) : List ky → (List (kw × (List (ByteArray × Bool)))) → (List ky) → (List (kw × (List ky))) → (List (ByteArray × (List ky))) → (List kB) → Int → Option (Int × (List (kw × (List (ByteArray × Bool)))) × (List ky) × (List (kw × (List ky))) × (List (ByteArray × (List ky))) × (List kB) × Int)
 | [], d, a, g, h, i, j => ((wY d a g h i j).bind fun k => some ((wi0 .i64 (k.2.2 - n)), k.1, a, g, h, k.2.1, k.2.2))
 | m :: q, d, a, g, h, i, j => ((pD m).bind fun s => ((if s then ((zz a m).bind fun t => some (!t)) else some false).bind fun u => (if u then ((vt d a g h i j m).bind fun c => ((uC d c.1 c.2.1 c.2.2 i j m).bind fun o => (oF n q o.1 c.1 c.2.1 c.2.2 o.2.1 o.2.2))) else (oF n q d a g h i j))))
def wc (h : List (kw × (List (ByteArray × Bool)))) (a : List ky) (g : List (kw × (List ky))) (c : List (ByteArray × (List ky))) (d : List kB) (i : Int) (j : List ky) : Option (Int × (List (kw × (List (ByteArray × Bool)))) × (List ky) × (List (kw × (List ky))) × (List (ByteArray × (List ky))) × (List kB) × Int) :=
 oF i j h a g c d i
def xL (a0 : List ky) : Option ((List (kw × (List (ByteArray × Bool)))) × (List ky) × (List (kw × (List ky))) × (List (ByteArray × (List ky))) × (List kB) × Int) :=
 ((wc ([]) ([]) ([]) ([]) ([]) 0 a0).bind fun a => some (a.2.1, a.2.2.1, a.2.2.2.1, a.2.2.2.2.1, a.2.2.2.2.2.1, a.2.2.2.2.2.2))
def rh (a0 g : kB) : Option Int :=
 ((nw a0.kw g.kw).bind fun a => ((pN a0.lx g.lx).bind fun c => ((se ([a, c])).bind fun d => some d)))
def yr (c : List (kw × (List (ByteArray × Bool)))) (d : List ky) (i : List (kw × (List ky))) (g : List (ByteArray × (List ky))) (h : List kB) (k : Int) : Option (List kB) :=
 ((Sp 48 (fun (a : kw) (b : ByteArray) => (⟨a, b⟩ : kB)) c).bind fun m => Hu m (fun j => ((yA (fun (x : (kB × kB)) => rh x.1 x.2) j).bind fun n => some n)))
def tB (a : List (kw × (List (ByteArray × Bool)))) (c : List ky) (h : List (kw × (List ky))) (d : List (ByteArray × (List ky))) (g : List kB) (i : Int) (j : kw) (a2 : ByteArray) : Option Bool :=
 some (zx ma ((mi kN a j).getD []) a2 false)
def tk  : List ky → Int → Option Int
 | [], c => some c
 | a :: d, c => (tk d (wi0 .i64 (c + (wi0 .i64 ((wi0 .i64 ((wi0 .i64 ((wi0 .i64 ((wi0 .i64 ((wi0 .i64 ((wi0 .i64 ((wi0 .i64 (20 + (a.Head.kE.size : Int))) + (a.Head.kT.size : Int))) + (a.lx.size : Int))) + (a.B.kE.size : Int))) + (a.B.kT.size : Int))) + (a.C.kE.size : Int))) + (a.C.kT.size : Int))) + (a.lU.size : Int))))))
def ru (a0 : List ky) : Option Int :=
 tk a0 0
def vQ  : List Signed → Int → Option Int
 | [], a => some a
 | c :: d, a => ((ru ([c.ky])).bind fun g => (vQ d (wi0 .i64 (a + (wi0 .i64 (g + (c.Tag.length : Int)))))))
def xP (h : List Signed) : List Key → Int → Option Int
 | [], a => ((vQ h a).bind fun c => some c)
 | d :: g, a => (xP h g (wi0 .i64 (a + (wi0 .i64 ((wi0 .i64 (10 + (d.lx.size : Int))) + (d.Key.length : Int))))))
def Aq (a0 : List Key) (a : List Signed) : Option Int :=
 xP a a0 0
def rC (a0 : ByteArray) : Nat → Int → Option Bool
 | 0, _ => none
 | d + 1, c => (if (decide (c < (a0.size : Int))) then ((CA a0 c).bind fun a => ((if (decide ((a.toNat : Int) < 97)) then some true else some (decide ((a.toNat : Int) > 122))).bind fun g => ((if g then ((if (decide ((a.toNat : Int) < 48)) then some true else some (decide ((a.toNat : Int) > 57))).bind fun j => some j) else some false).bind fun h => ((if h then some ((a.toNat : Int) != 45) else some false).bind fun i => (if i then some false else (rC a0 d (wi0 .i64 (c + 1)))))))) else some true)
def sQ (a0 : ByteArray) : Option Bool :=
 ((if (ma a0 zS) then some true else some (decide ((a0.size : Int) > 16))).bind fun x2 => ((if x2 then some true else ((CA a0 0).bind fun c => some (decide ((c.toNat : Int) < 97)))).bind fun d => ((if d then some true else ((CA a0 0).bind fun a => some (decide ((a.toNat : Int) > 122)))).bind fun g => (if g then some false else rC a0 lC 0))))
def sS (a0 : kw) : Option Bool :=
 ((sQ a0.kE).bind fun d => ((if d then ((sQ a0.kT).bind fun a => some a) else some false).bind fun c => some c))
def qZ (a0 a : kw) : Option Bool :=
 ((if (qp a0.kE a.kE) then some true else ((if (ma a0.kE a.kE) then some (qp a0.kT a.kT) else some false).bind fun d => some d)).bind fun c => some c)
def wy (a0 : ky) : Option Bool :=
 ((sS a0.Head).bind fun v => (if (!v) then some false else (if (a0.Kind == 1) then ((sQ a0.lx).bind fun i => ((if i then some (kN a0.B (⟨zS, zS⟩ : kw)) else some false).bind fun k => ((if k then some (kN a0.C (⟨zS, zS⟩ : kw)) else some false).bind fun m => ((if m then some (ma a0.lU zS) else some false).bind fun n => some n)))) else ((if (!(ma a0.lx zS)) then some true else ((sS a0.B).bind fun d => some (!d))).bind fun o => (if o then some false else (if (a0.Kind == 2) then ((if (kN a0.C (⟨zS, zS⟩ : kw)) then some (ma a0.lU zS) else some false).bind fun q => some q) else (if (a0.Kind == 3) then ((if (kN a0.C (⟨zS, zS⟩ : kw)) then some (ma a0.B.kE a0.Head.kE) else some false).bind fun s => ((if s then ((sQ a0.lU).bind fun j => some j) else some false).bind fun t => some t)) else ((if (a0.Kind == 4) then some (ma a0.lU zS) else some false).bind fun u => ((if u then ((sS a0.C).bind fun c => some c) else some false).bind fun g => ((if g then ((qZ a0.B a0.C).bind fun a => some a) else some false).bind fun h => some h))))))))))
def vj  : Nat → Int → ByteArray → Option ByteArray
 | 0, _, _ => none
 | n45 + 1, a, c => (if (decide (a ≥ 128)) then ((By c (Ch ([(IntKind.u8.wrap (wi0 .i64 (128 + (Int.tmod a 128))))]))).bind fun d => (vj n45 (wi0 .i64 (Int.tdiv a 128)) d)) else ((By c (Ch ([(IntKind.u8.wrap a)]))).bind fun g => some g))
def xA (a0 : Int) : Option ByteArray :=
 vj lC a0 zS
def vV (a0 : ByteArray) : Option ByteArray :=
 ((xA (a0.size : Int)).bind fun a => ((By a a0).bind fun c => some c))
def wz (a0 : kw) : Option ByteArray :=
 ((vV a0.kE).bind fun a => ((vV a0.kT).bind fun c => ((By a c).bind fun d => some d)))
def Co (a0 : ky) : Option ByteArray :=
 ((xA a0.Kind).bind fun g => ((wz a0.Head).bind fun h => ((By g h).bind fun a => (if (a0.Kind == 1) then ((vV a0.lx).bind fun i => ((By a i).bind fun n => some n)) else ((wz a0.B).bind fun j => ((By a j).bind fun c => (((if (a0.Kind == 3) then ((vV a0.lU).bind fun m => ((By c m).bind fun q => some q)) else some c) : Option ByteArray).bind fun d => (((if (a0.Kind == 4) then ((wz a0.C).bind fun k => ((By d k).bind fun o => some o)) else some d) : Option ByteArray).bind fun s => some s))))))))
def xV (a0 : ky) : Option ByteArray :=
 ((wy a0).bind fun a => (if (!a) then some zS else ((Co a0).bind fun c => some c)))
def uF (a0 d : ky) : Option Int :=
 ((xV a0).bind fun a => ((xV d).bind fun c => (if (qp a c) then some (-1) else (if (!(qp a c || ma a c)) then some 1 else some 0))))
def tA (a : List ky) : List ky → Bool → ky → Option (Bool × ky)
 | [], d, g => some (d, g)
 | c :: h, d, g => ((wy c).bind fun i => ((if i then ((if ((a.length : Int) == 0) then some true else ((mx a (wi0 .i64 ((a.length : Int) - 1))).bind fun s => ((uF s c).bind fun k => some (decide (k < 0))))).bind fun q => some q) else some false).bind fun m => ((if m then ((if (!d) then some true else ((uF c g).bind fun j => some (decide (j < 0)))).bind fun o => some o) else some false).bind fun n => (if n then (tA a h true c) else (tA a h d g)))))
def vE (a0 : List ky) : Nat → (List ky) → Option (List ky)
 | 0, _ => none
 | d + 1, a => ((tA a a0 false (⟨0, (⟨zS, zS⟩ : kw), zS, (⟨zS, zS⟩ : kw), (⟨zS, zS⟩ : kw), zS⟩ : ky)).bind fun (g, h) => (if (!g) then some a else ((mJ 136 a ([h])).bind fun c => (vE a0 d c))))
def EY (a0 : List ky) : Option (List ky) :=
 vE a0 lC ([])
def zk (d : ky) : List ky → Option Bool
 | [] => some false
 | c :: a => (if (oI c d) then some true else (zk d a))
def BS (a0 : List ky) (a : ky) : Option Bool :=
 zk a a0
def tJ (a : List ByteArray) : List ByteArray → ByteArray → Option ByteArray
 | [], d => some d
 | c :: g, d => ((sQ c).bind fun i => ((if i then ((if ((a.length : Int) == 0) then some true else ((mx a (wi0 .i64 ((a.length : Int) - 1))).bind fun h => some (!(qp c h || ma c h)))).bind fun n => some n) else some false).bind fun j => ((if j then ((if (ma d zS) then some true else some (qp c d)).bind fun m => some m) else some false).bind fun k => (if k then (tJ a g c) else (tJ a g d)))))
def vI (a0 : List ByteArray) : Nat → (List ByteArray) → Option (List ByteArray)
 | 0, _ => none
 | g + 1, a => ((tJ a a0 zS).bind fun c => (if (ma c zS) then some a else ((mJ 16 a ([c])).bind fun d => (vI a0 g d))))
def BK (a0 : List ByteArray) : Option (List ByteArray) :=
 vI a0 lC ([])
def tQ  : List ky → (List ByteArray) → Option (List ByteArray)
 | [], c => ((BK c).bind fun g => some g)
 | a :: h, c => ((mJ 16 c ([a.lx, a.Head.kE, a.B.kE, a.C.kE])).bind fun d => (tQ h d))
def Aa (a0 : List ky) : Option (List ByteArray) :=
 tQ a0 ([])
def xT (g : kw) (a2 : ByteArray) : List kB → Option Bool
 | [] => some false
 | c :: d => ((if (kN c.kw g) then some (ma c.lx a2) else some false).bind fun a => (if a then some true else (xT g a2 d)))
def tW (a0 : List kB) (a : kw) (a2 : ByteArray) : Option Bool :=
 xT a a2 a0
def wH (a0 : List kB) (i : ky) (a3 : ByteArray) : List ByteArray → Option Bool
 | [] => some false
 | a :: c => ((tW a0 i.B a).bind fun d => ((if d then ((tW a0 (⟨a, i.lU⟩ : kw) a3).bind fun g => some g) else some false).bind fun h => (if h then some true else (wH a0 i a3 c))))
def yO (a0 : List kB) (a : ky) (a2 : List ByteArray) (a3 : ByteArray) : Option Bool :=
 (if (a.Kind == 1) then some (ma a.lx a3) else (if (a.Kind == 2) then ((tW a0 a.B a3).bind fun g => some g) else (if (a.Kind == 4) then ((tW a0 a.B a3).bind fun h => ((if h then ((tW a0 a.C a3).bind fun c => some c) else some false).bind fun d => some d)) else wH a0 a a3 a2)))
def vK (a0 a : kB) : Option Bool :=
 ((qZ a0.kw a.kw).bind fun g => ((if g then some true else ((if (kN a0.kw a.kw) then some (qp a0.lx a.lx) else some false).bind fun d => some d)).bind fun c => some c))
def pO (c a0 : List kB) : List kB → Nat → Int → Option Int
 | [], _, a => some a
 | h :: g, d, a => ((if ((c.length : Int) == 0) then some true else ((mx c (wi0 .i64 ((c.length : Int) - 1))).bind fun q => ((vK q h).bind fun j => some j))).bind fun k => ((if k then ((if (decide (a < 0)) then some true else ((mx a0 a).bind fun o => ((vK h o).bind fun i => some i))).bind fun n => some n) else some false).bind fun m => (if m then (pO c a0 g (d + 1) (d : Int)) else (pO c a0 g (d + 1) a))))
def pM (a0 : List kB) : List kB → (List kB) → Option (List kB)
 | [], a => some a
 | i :: d, a => ((pO a a0 a0 0 (-1)).bind fun c => (if (decide (c ≥ 0)) then ((mx a0 c).bind fun h => ((mJ 48 a ([h])).bind fun g => (pM a0 d g))) else (pM a0 d a)))
def BC (a0 : List kB) : Option (List kB) :=
 pM a0 a0 ([])
def wB (c : ky) (n : List ByteArray) : List ByteArray → (List kB) → Bool → Option ((List kB) × Bool)
 | [], a, g => some (a, g)
 | d :: h, a, g => ((tW a c.Head d).bind fun j => ((if (!j) then ((yO a c n d).bind fun k => some k) else some false).bind fun m => (if m then ((mJ 48 a ([(⟨c.Head, d⟩ : kB)])).bind fun i => (wB c n h i true)) else (wB c n h a g))))
def yi (j : List ByteArray) : List ky → (List kB) → Bool → Option ((List kB) × Bool)
 | [], a, c => some (a, c)
 | h :: d, a, c => ((wB h j j a c).bind fun (g, i) => (yi j d g i))
def wu (i : List ByteArray) (j : List ky) : Nat → (List kB) → Option (List kB)
 | 0, _ => none
 | c + 1, h => ((yi i j h false).bind fun (a, g) => (if (!g) then ((BC a).bind fun d => some d) else (wu i j c a)))
def zh (a0 : List ky) : Option (List kB) :=
 ((EY a0).bind fun c => ((Aa c).bind fun a => wu a c lC ([])))
def ow (c : Int) : Nat → (List ByteArray) → Int → Int → Option ((List ByteArray) × Int)
 | 0, _, _, _ => none
 | i + 1, a, d, g => (if (decide (g < ((a.length - (Int.toNat c) : Nat) : Int))) then ((((mx (a.drop (Int.toNat c)) g).bind fun k => ((mx (a.drop (Int.toNat c)) (wi0 .i64 (g - 1))).bind fun m => (if (!(ma k m)) then ((mx (a.drop (Int.toNat c)) g).bind fun n => ((mx a d).bind fun o => some ((a.set (Int.toNat d) n), (wi0 .i64 (d + 1))))) else some (a, d)))) : Option ((List ByteArray) × Int)).bind fun (h, j) => (ow c i h j (wi0 .i64 (g + 1)))) else some (a, d))
def ov (a0 : List ByteArray) : Nat → Int → Option (List ByteArray)
 | 0, _ => none
 | g + 1, a => (if (decide (a < (a0.length : Int))) then ((mx a0 a).bind fun h => ((mx a0 (wi0 .i64 (a - 1))).bind fun i => (if (ma h i) then ((nG (decide (0 ≤ a) && decide (a ≤ (a0.length : Int)))).bind fun _ => ((ow a lC a0 a 1).bind fun (d, c) => ((nG (decide (0 ≤ c) && decide (c ≤ (d.length : Int)))).bind fun _ => ((nG (decide (0 ≤ c) && decide (c ≤ ((oA d (Int.toNat c) zS).length : Int)))).bind fun _ => some ((oA d (Int.toNat c) zS).take (Int.toNat c)))))) else (ov a0 g (wi0 .i64 (a + 1)))))) else some a0)
def qE (a0 : List ByteArray) : Option (List ByteArray) :=
 (if (decide ((a0.length : Int) < 2)) then some a0 else ov a0 lC 1)
def uS  : List ByteArray → (List ByteArray) → Option (List ByteArray)
 | [], a => ((HQ a).bind fun h => ((qE h).bind fun i => some i))
 | j :: c, a => ((qi j).bind fun g => (if g then ((mJ 16 a ([j])).bind fun d => (uS c d)) else (uS c a)))
def zw (a0 : List ByteArray) : Option (List ByteArray) :=
 uS a0 ([])
def tI  : List ky → (List ByteArray) → Option (List ByteArray)
 | [], c => ((zw c).bind fun g => some g)
 | a :: h, c => ((mJ 16 c ([a.lx, a.Head.kE, a.B.kE, a.C.kE])).bind fun d => (tI h d))
def Am (a0 : List ky) : Option (List ByteArray) :=
 tI a0 ([])
def oP (f1 : ByteArray → Option Bool) : List ByteArray → Nat → Option Int
 | [], _ => some (-1)
 | d :: a, i35 => ((f1 d).bind fun c => (if c then some (i35 : Int) else (oP f1 a (i35 + 1))))
def vp (a0 : List ByteArray) (f1 : ByteArray → Option Bool) : Option Int :=
 oP f1 a0 0
def tp (a0 : List ByteArray) (f1 : ByteArray → Option Bool) : Option Bool :=
 ((vp a0 f1).bind fun a => some (decide (a ≥ 0)))
def vg (a0 : ByteArray) (a : (kw × ByteArray) → Option Bool) (c1 : ky) (c2 : ByteArray) : Option Bool :=
 ((a (c1.B, a0)).bind fun g => ((if g then ((a ((⟨a0, c1.lU⟩ : kw), c2)).bind fun c => some c) else some false).bind fun d => some d))
def zm (a0 : ky) (f1 : (kw × ByteArray) → Option Bool) (a2 : List ByteArray) (a3 : ByteArray) : Option Bool :=
 (if (a0.Kind == 1) then some (ma a0.lx a3) else (if (a0.Kind == 2) then ((f1 (a0.B, a3)).bind fun a => some a) else (if (a0.Kind == 4) then ((f1 (a0.B, a3)).bind fun c => ((if c then ((f1 (a0.C, a3)).bind fun d => some d) else some false).bind fun h => some h)) else ((tp a2 (fun (x : ByteArray) => vg x f1 a0 a3)).bind fun g => some g))))
def rK (a0 : ky) (f1 : (kw × ByteArray) → Option Bool) (g : List ByteArray) : List ByteArray → (List kB) → Option (List kB)
 | [], a => some a
 | d :: c, a => ((zm a0 f1 g d).bind fun i => (if i then ((mJ 48 a ([(⟨a0.Head, d⟩ : kB)])).bind fun h => (rK a0 f1 g c h)) else (rK a0 f1 g c a)))
def wo (a0 : ky) (f1 : (kw × ByteArray) → Option Bool) (a2 : List ByteArray) : Option (List kB) :=
 ((pD a0).bind fun d => ((if (!d) then some true else some false).bind fun x7 => (if x7 then some [] else ((zw a2).bind fun a => (((if (a0.Kind == 1) then some ([a0.lx]) else some a) : Option (List ByteArray)).bind fun c => rK a0 f1 a c ([]))))))
def vN (a0 : kw) (a : ByteArray) (c : List (kB × Bool)) : Option Bool :=
 some (zx nq c (⟨a0, a⟩ : kB) false)
def qj (g : ky) (j : kB) : List kB → (List kV) → (List (kB × Bool)) → Option ((((List kV) × Bool) ⊕ ((List kV) × (List (kB × Bool)))) ⊕ ((List kV) × (List (kB × Bool))))
 | [], c, a => some (Sum.inr (c, a))
 | d :: h, c, a => (if (zx nq a d false) then (qj g j h c a) else ((mJ 184 c ([(⟨g, d⟩ : kV)])).bind fun i => (if (nq d j) then some (Sum.inl (Sum.inl (i, true))) else (qj g j h i (oh nq a d true)))))
def rD (m : List ByteArray) (n : kB) : List ky → (List kV) → (List (kB × Bool)) → Option (((List kV) × Bool) ⊕ ((List kV) × (List (kB × Bool))))
 | [], c, a => some (Sum.inr (c, a))
 | d :: g, c, a => ((wo d (fun (x : (kw × ByteArray)) => vN x.1 x.2 a) m).bind fun k => ((qj d n k c a).bind fun s => match s with | .inl j => some j | .inr (h, i) => (rD m n g h i)))
def rG (k : List ByteArray) (m : kB) (n : List ky) : Nat → (List kV) → Int → (List (kB × Bool)) → Option ((List kV) × Bool)
 | 0, _, _, _ => none
 | h + 1, a, j, c => (if (decide (j < (a.length : Int))) then ((rD k m n a c).bind fun s => match s with | .inl i => some i | .inr (d, g) => (rG k m n h d (a.length : Int) g)) else some ([], false))
def yf (a0 : List ky) (c : kB) : Option ((List kV) × Bool) :=
 ((Ba a0).bind fun d => ((Am a0).bind fun a => rG a c d lC ([]) (-1) ([])))
def tF  : List kV → (List kB) → Option (List kB)
 | [], a => some a
 | g :: d, a => ((mJ 48 a ([g.kB])).bind fun c => (tF d c))
def wx (a0 : List kV) : Option (List kB) :=
 tF a0 ([])
def rn (d : kB) : List kB → Nat → Option Int
 | [], _ => some (-1)
 | c :: a, i46 => (if (nq d c) then some (i46 : Int) else (rn d a (i46 + 1)))
def yq (a0 : List kB) (a : kB) : Option Int :=
 rn a a0 0
def qT (a0 : List kB) (a : kB) : Option Bool :=
 ((yq a0 a).bind fun c => some (decide (c ≥ 0)))
def pz (d : kB) : List kB → Nat → Option Int
 | [], _ => some (-1)
 | c :: a, i46 => (if (nq d c) then some (i46 : Int) else (pz d a (i46 + 1)))
def wk (a0 : List kB) (a : kB) : Option Int :=
 pz a a0 0
def ry (a0 : List kB) (a : kB) : Option Bool :=
 ((wk a0 a).bind fun c => some (decide (c ≥ 0)))
def tw (a0 : List kB) (a : kw) (a2 : ByteArray) : Option Bool :=
 ((ry a0 (⟨a, a2⟩ : kB)).bind fun c => some c)
def ox (f1 : kB → Option Bool) : List kB → Nat → Option Int
 | [], _ => some (-1)
 | d :: a, i35 => ((f1 d).bind fun c => (if c then some (i35 : Int) else (ox f1 a (i35 + 1))))
def ue (a0 : List kB) (f1 : kB → Option Bool) : Option Int :=
 ox f1 a0 0
def pR (a0 : List kB) (f1 : kB → Option Bool) : Option Bool :=
 ((ue a0 f1).bind fun a => some (decide (a ≥ 0)))
def uJ (a0 : kB) (c : kw) (c1 : List kB) (c2 d : ByteArray) : Option Bool :=
 ((if (kN a0.kw c) then ((tw c1 (⟨a0.lx, c2⟩ : kw) d).bind fun a => some a) else some false).bind fun x7 => some x7)
def yQ (a0 : List kB) (c : kw) (a2 a3 : ByteArray) : Option Bool :=
 ((pR a0 (fun (x : kB) => uJ x c a0 a2 a3)).bind fun a => some a)
def uK (a0 : kV) (a : List kB) : Option Bool :=
 ((pD a0.ky).bind fun c => ((if (!c) then some true else some (!(kN a0.kB.kw a0.ky.Head))).bind fun j => (if j then some false else (if (a0.ky.Kind == 1) then some (ma a0.ky.lx a0.kB.lx) else (if (a0.ky.Kind == 2) then ((tw a a0.ky.B a0.kB.lx).bind fun d => some d) else (if (a0.ky.Kind == 3) then ((yQ a a0.ky.B a0.ky.lU a0.kB.lx).bind fun g => some g) else ((tw a a0.ky.B a0.kB.lx).bind fun h => ((if h then ((tw a a0.ky.C a0.kB.lx).bind fun i => some i) else some false).bind fun k => some k))))))))
def sN (d : List kB) : List kV → Nat → Option Bool
 | [], _ => some true
 | g :: a, i98 => ((nG (decide (0 ≤ (i98 : Int)) && decide ((i98 : Int) ≤ (d.length : Int)))).bind fun _ => ((uK g (d.take (Int.toNat (i98 : Int)))).bind fun c => (if (!c) then some false else (sN d a (i98 + 1)))))
def xr (a0 : List kV) : Option Bool :=
 ((wx a0).bind fun a => sN a a0 0)
def qQ (a0 : List kV) : Option (List kV) :=
 ((mJ 184 ([]) a0).bind fun a => some a)
def si (a0 : List kV) (a a2 : Int) : Option (List kV) :=
 ((nG (decide (0 ≤ a ∧ a ≤ a2 ∧ a2 ≤ (a0.length : Int) ∧ (a0.length : Int) ≤ (a0.length : Int)))).bind fun _ => (if (a == a2) then some a0 else ((nG (decide (0 ≤ a) && decide (a ≤ (a0.length : Int)))).bind fun _ => ((nG (decide (0 ≤ a2) && decide (a2 ≤ (a0.length : Int)))).bind fun _ => ((nG (decide ((Int.toNat a) ≤ (Int.toNat a2) ∧ (Int.toNat a2) ≤ a0.length))).bind fun c => ((nG (decide (0 ≤ ((a0.take (Int.toNat a) ++ a0.drop (Int.toNat a2)).length : Int) ∧ ((a0.take (Int.toNat a) ++ a0.drop (Int.toNat a2)).length : Int) ≤ (a0.length : Int) ∧ (a0.length : Int) = ((Cv a0 (Int.toNat a) (Int.toNat a2)).length : Int) ∧ ((a0.take (Int.toNat a) ++ a0.drop (Int.toNat a2)).length : Int) = ((a0.take (Int.toNat a) ++ a0.drop (Int.toNat a2)).length : Int)))).bind fun _ => some ((oA (Cv a0 (Int.toNat a) (Int.toNat a2)) (Int.toNat ((a0.take (Int.toNat a) ++ a0.drop (Int.toNat a2)).length : Int)) (⟨(⟨0, (⟨zS, zS⟩ : kw), zS, (⟨zS, zS⟩ : kw), (⟨zS, zS⟩ : kw), zS⟩ : ky), (⟨(⟨zS, zS⟩ : kw), zS⟩ : kB)⟩ : kV)).take (a0.take (Int.toNat a) ++ a0.drop (Int.toNat a2)).length)))))))
def tC (a0 : List kV) : Nat → Int → Option (Bool ⊕ Unit)
 | 0, _ => none
 | c + 1, a => (if (decide (a < (if 0 > (wi0 .i64 ((a0.length : Int) - 1)) then 0 else (wi0 .i64 ((a0.length : Int) - 1))))) then ((qQ a0).bind fun d => ((si d a (wi0 .i64 (a + 1))).bind fun g => ((xr g).bind fun h => (if h then some (Sum.inl false) else (tC a0 c (wi0 .i64 (a + 1))))))) else some (Sum.inr ()))
def tN (i : List kB) (a0 : List kV) : List kB → Nat → Option Bool
 | [], _ => ((xr a0).bind fun g => (if (!g) then some false else ((tC a0 lC 0).bind fun s => match s with | .inl c => some c | .inr _ => some true)))
 | h :: a, i100 => ((nG (decide (0 ≤ (i100 : Int)) && decide ((i100 : Int) ≤ (i.length : Int)))).bind fun _ => ((qT (i.take (Int.toNat (i100 : Int))) h).bind fun d => (if d then some false else (tN i a0 a (i100 + 1)))))
def Ab (a0 : List kV) : Option Bool :=
 ((wx a0).bind fun a => tN a a0 a 0)
def sJ  : List kV → (List kB) → Option Bool
 | [], a => some true
 | g :: h, a => ((uK g a).bind fun d => (if (!d) then some false else ((mJ 48 a ([g.kB])).bind fun c => (sJ h c))))
def zq (a0 : List kV) : Option Bool :=
 sJ a0 ([])
def pr  : Nat → (List kV) → Int → Option (List kV)
 | 0, _, _ => none
 | h + 1, c, a => (if (decide (a ≥ 0)) then ((((qQ c).bind fun i => ((si i a (wi0 .i64 (a + 1))).bind fun d => ((zq d).bind fun j => (if j then some d else some c)))) : Option (List kV)).bind fun g => (pr h g (wi0 .i64 (a - 1)))) else some c)
def qt  : Nat → (List kV) → Option (List kV)
 | 0, _ => none
 | d + 1, a => ((Ab a).bind fun g => (if (!g) then ((pr lC a (wi0 .i64 ((a.length : Int) - 2))).bind fun c => (qt d c)) else some a))
def xn (a0 : List kV) : Option (List kV) :=
 qt lC a0
def vM (a0 : List ky) (d : kB) : Option ((List kV) × Bool) :=
 ((yf a0 d).bind fun c => (if (!c.2) then some ([], false) else ((xn c.1).bind fun a => some (a, true))))
def NE (a0 : List ky) (c : ByteArray) : Option ((List (kw × (List (ByteArray × Bool)))) × (List ky) × (List (kw × (List ky))) × (List (ByteArray × (List ky))) × (List kB) × Int × ByteArray) :=
 ((xL a0).bind fun a => some (a.1, a.2.1, a.2.2.1, a.2.2.2.1, a.2.2.2.2.1, a.2.2.2.2.2, c))
def xh (f1 : nS → Option Bool) : List nS → Nat → Option Int
 | [], _ => some (-1)
 | d :: a, i47 => ((f1 d).bind fun c => (if c then some (i47 : Int) else (xh f1 a (i47 + 1))))
def Cx (a0 : List nS) (f1 : nS → Option Bool) : Option Int :=
 xh f1 a0 0
def JF (a0 : nS) (a : ky) : Option Bool :=
 some (oI a0.Signed.ky a)
def M6 (a0 : lR) (d : ky) : Option (nS × Bool) :=
 ((Cx a0.nr (fun (x : nS) => JF x d)).bind fun a => (if (decide (a < 0)) then some ((⟨(⟨(⟨0, (⟨zS, zS⟩ : kw), zS, (⟨zS, zS⟩ : kw), (⟨zS, zS⟩ : kw), zS⟩ : ky), []⟩ : Signed), (⟨0, 0, (⟨zS, zS⟩ : kw), []⟩ : Formula)⟩ : nS), false) else ((mx a0.nr a).bind fun c => some (c, true))))
def Hi (a0 : List vd) : Option (List vd) :=
 ((mJ 128 ([]) a0).bind fun a => some a)
def yz (f1 : vd → Option Bool) : List vd → Nat → Option Int
 | [], _ => some (-1)
 | d :: a, i47 => ((f1 d).bind fun c => (if c then some (i47 : Int) else (yz f1 a (i47 + 1))))
def EW (a0 : List vd) (f1 : vd → Option Bool) : Option Int :=
 yz f1 a0 0
def yd (f1 : vd → Option Bool) : Nat → (List vd) → Int → Int → Option (List vd)
 | 0, _, _, _ => none
 | i + 1, c, a, d => (if (decide (d < (c.length : Int))) then ((((mx c d).bind fun g => ((f1 g).bind fun j => (if (!j) then ((mx c a).bind fun m => some ((c.set (Int.toNat a) g), (wi0 .i64 (a + 1)))) else some (c, a)))) : Option ((List vd) × Int)).bind fun (h, k) => (yd f1 i h k (wi0 .i64 (d + 1)))) else ((nG (decide (0 ≤ a) && decide (a ≤ (c.length : Int)))).bind fun _ => ((nG (decide (0 ≤ a) && decide (a ≤ ((oA c (Int.toNat a) (⟨(⟨zS, zS⟩ : kw), (⟨0, 0, (⟨zS, zS⟩ : kw), []⟩ : Formula), []⟩ : vd)).length : Int)))).bind fun _ => some ((oA c (Int.toNat a) (⟨(⟨zS, zS⟩ : kw), (⟨0, 0, (⟨zS, zS⟩ : kw), []⟩ : Formula), []⟩ : vd)).take (Int.toNat a)))))
def D0 (a0 : List vd) (f1 : vd → Option Bool) : Option (List vd) :=
 ((EW a0 f1).bind fun a => (if (a == (-1)) then some a0 else yd f1 lC a0 a (wi0 .i64 (a + 1))))
def IZ (a0 : vd) (a : ky) : Option Bool :=
 ((zz a0.qv a).bind fun c => some (!c))
def L7 (a0 : lR) (c : ky) : Option (List vd) :=
 ((Hi a0.oq).bind fun d => ((D0 d (fun (x : vd) => IZ x c)).bind fun a => some a))
def qm (h : Int) (rec : Formula → Int → Option (Int × Int)) : List Formula → Int → Int → Option (Int × Int)
 | [], a, d => some (a, d)
 | i :: g, a, d => (if (decide (a > h)) then some (a, d) else ((rec i (wi0 .i64 (h - a))).bind fun c => (qm h rec g (wi0 .i64 (a + c.1)) (if c.2 > d then c.2 else d))))
def xJ (rec : Formula → Int → Option (Int × Int)) (a0 : Formula) (d : Int) : Option (Int × Int) :=
 ((qm d rec a0.Kids 1 0).bind fun (a, c) => some (a, (wi0 .i64 (c + 1))))
def pa : Nat → Formula → Int → Option (Int × Int)
 | 0 => fun _ _ => none
 | n + 1 => xJ (pa n)
def zr (a0 : Formula) : Option (Int × Int) :=
 ((pa lC a0 4096).bind fun a => (if (decide (a.1 > 4096)) then some (0, 0) else some (a.1, a.2)))
def zn (a0 : Formula) : Option Bool :=
 (if (a0.Op == 1) then ((pA a0.kw).bind fun g => ((if g then some ((a0.Kids.length : Int) == 0) else some false).bind fun h => ((if h then some (a0.K == 0) else some false).bind fun i => some i))) else ((if (a0.Op == 2) then some (a0.Op == 2) else some (a0.Op == 3)).bind fun j => (if j then ((if (kN a0.kw (⟨zS, zS⟩ : kw)) then some (a0.K == 0) else some false).bind fun k => some k) else ((if (a0.Op == 4) then some (kN a0.kw (⟨zS, zS⟩ : kw)) else some false).bind fun m => ((if m then some (decide (a0.K ≥ 0)) else some false).bind fun a => ((if a then some (decide (a0.K ≤ (a0.Kids.length : Int))) else some false).bind fun c => ((if c then some (decide ((a0.Kids.length : Int) ≥ 1)) else some false).bind fun d => some d)))))))
def nM (f1 : Formula → Option Bool) : List Formula → Nat → Option Int
 | [], _ => some (-1)
 | d :: a, i41 => ((f1 d).bind fun c => (if c then some (i41 : Int) else (nM f1 a (i41 + 1))))
def uT (a0 : List Formula) (f1 : Formula → Option Bool) : Option Int :=
 nM f1 a0 0
def oK (a0 : List Formula) (f1 : Formula → Option Bool) : Option Bool :=
 ((uT a0 f1).bind fun a => some (decide (a ≥ 0)))
def wG (rec : Formula → Option Bool) (a0 : Formula) : Option Bool :=
 ((rec a0).bind fun a => some (!a))
def xN (rec : Formula → Option Bool) (a0 : Formula) : Option Bool :=
 ((zn a0).bind fun d => ((if d then some (decide ((a0.Kids.length : Int) ≤ 8)) else some false).bind fun g => ((if g then ((oK a0.Kids (fun (x : Formula) => wG rec x)).bind fun a => some (!a)) else some false).bind fun c => some c)))
def sC : Nat → Formula → Option Bool
 | 0 => fun _ => none
 | n + 1 => xN (sC n)
def qO (a0 : Formula) : Option Bool :=
 ((zr a0).bind fun c => ((if (decide (c.1 ≥ 1)) then some (decide (c.1 ≤ 64)) else some false).bind fun h => ((if h then some (decide (c.2 ≤ 6)) else some false).bind fun d => ((if d then ((sC lC a0).bind fun a => some a) else some false).bind fun g => some g))))
def Bz (a0 : Formula) (a : Int) : Option Bool :=
 ((if (a0.Op == a) then some ((a0.Kids.length : Int) == 0) else some false).bind fun x6 => some x6)
def JB  : Option Formula :=
 some (⟨2, 0, (⟨zS, zS⟩ : kw), []⟩ : Formula)
def Kp  : Option Formula :=
 some (⟨3, 0, (⟨zS, zS⟩ : kw), []⟩ : Formula)
def AF (a0 : Int) : List Formula → (List Formula) → Option (List Formula)
 | [], a => some a
 | c :: d, a => (if (c.Op == a0) then ((mJ 72 a c.Kids).bind fun g => (AF a0 d g)) else ((mJ 72 a ([c])).bind fun h => (AF a0 d h)))
def Mj (a0 : Int) (a : List Formula) : Option (List Formula) :=
 AF a0 a ([])
def CG (a0 : Formula) (a : Int) : Option Bool :=
 ((Bz a0 a).bind fun c => some c)
def ES (a0 : List Formula) : Option (List Formula) :=
 ((mJ 72 ([]) a0).bind fun a => some a)
def sA (q : Int) (f3 : (Formula × Formula) → Option Int) : Nat → (List Formula) → Int → Option (List Formula)
 | 0, _, _ => none
 | h + 1, c, a => ((if (decide (a > q)) then ((mx c a).bind fun k => ((mx c (wi0 .i64 (a - 1))).bind fun m => ((f3 (k, m)).bind fun i => some (decide (i < 0))))) else some false).bind fun j => (if j then ((mx c (wi0 .i64 (a - 1))).bind fun g => ((mx c a).bind fun d => ((mx c a).bind fun n => ((mx (c.set (Int.toNat a) g) (wi0 .i64 (a - 1))).bind fun o => (sA q f3 h ((c.set (Int.toNat a) g).set (Int.toNat (wi0 .i64 (a - 1))) (⟨d.Op, d.K, d.kw, d.Kids⟩ : Formula)) (wi0 .i64 (a - 1))))))) else some c))
def sf (a2 h : Int) (f3 : (Formula × Formula) → Option Int) : Nat → (List Formula) → Int → Option (List Formula)
 | 0, _, _ => none
 | g + 1, c, a => (if (decide (a < a2)) then ((sA h f3 lC c a).bind fun d => (sf a2 h f3 g d (wi0 .i64 (a + 1)))) else some c)
def tS (a0 : List Formula) (a a2 : Int) (f3 : (Formula × Formula) → Option Int) : Option (List Formula) :=
 sf a2 a f3 lC a0 (wi0 .i64 (a + 1))
def uo (a3 a2 h : Int) : Nat → (List Formula) → Int → Option (List Formula)
 | 0, _, _ => none
 | i + 1, c, a => (if (decide (a < a3)) then ((mx c (wi0 .i64 (a2 + a))).bind fun g => ((mx c (wi0 .i64 (h + a))).bind fun d => ((mx c (wi0 .i64 (h + a))).bind fun j => ((mx (c.set (Int.toNat (wi0 .i64 (h + a))) g) (wi0 .i64 (a2 + a))).bind fun k => (uo a3 a2 h i ((c.set (Int.toNat (wi0 .i64 (h + a))) g).set (Int.toNat (wi0 .i64 (a2 + a))) (⟨d.Op, d.K, d.kw, d.Kids⟩ : Formula)) (wi0 .i64 (a + 1))))))) else some c)
def qX (a0 : List Formula) (a a2 a3 : Int) (f4 : (Formula × Formula) → Option Int) : Option (List Formula) :=
 uo a3 a2 a lC a0 0
def rk (a2 : Int) (f4 : (Formula × Formula) → Option Int) : Nat → (List Formula) → Int → Int → Option (List Formula)
 | 0, _, _, _ => none
 | n185 + 1, d, a, c => (if (a != c) then (if (decide (a > c)) then ((qX d (wi0 .i64 (a2 - a)) a2 c f4).bind fun g => (rk a2 f4 n185 g (wi0 .i64 (a - c)) c)) else ((qX d (wi0 .i64 (a2 - a)) (wi0 .i64 ((wi0 .i64 (a2 + c)) - a)) a f4).bind fun h => (rk a2 f4 n185 h a (wi0 .i64 (c - a))))) else ((qX d (wi0 .i64 (a2 - a)) a2 a f4).bind fun i => some i))
def AQ (a0 : List Formula) (a a2 a3 : Int) (f4 : (Formula × Formula) → Option Int) : Option (List Formula) :=
 rk a2 f4 lC a0 (wi0 .i64 (a2 - a)) (wi0 .i64 (a3 - a2))
def uQ (h : Int) : Nat → (List Formula) → Int → Option (List Formula)
 | 0, _, _ => none
 | i + 1, c, a => (if (decide (a < (wi0 .i64 (h - 1)))) then ((mx c (wi0 .i64 (a + 1))).bind fun g => ((mx c a).bind fun d => ((mx c a).bind fun j => ((mx (c.set (Int.toNat a) g) (wi0 .i64 (a + 1))).bind fun k => (uQ h i ((c.set (Int.toNat a) g).set (Int.toNat (wi0 .i64 (a + 1))) (⟨d.Op, d.K, d.kw, d.Kids⟩ : Formula)) (wi0 .i64 (a + 1))))))) else some c)
def qu (a0 : List Formula) (j : Int) (f4 : (Formula × Formula) → Option Int) : Nat → Int → Int → Option (List Formula)
 | 0, _, _ => none
 | n325 + 1, a, c => (if (decide (a < c)) then ((mx a0 (wi0 .i64 (Int.fdiv (IntKind.u64.wrap (wi0 .i64 (a + c))) (2 ^ min (Int.toNat 1) (IntKind.bits .u64))))).bind fun h => ((mx a0 j).bind fun i => ((f4 (h, i)).bind fun g => (if (decide (g < 0)) then (qu a0 j f4 n325 (wi0 .i64 ((wi0 .i64 (Int.fdiv (IntKind.u64.wrap (wi0 .i64 (a + c))) (2 ^ min (Int.toNat 1) (IntKind.bits .u64)))) + 1)) c) else (qu a0 j f4 n325 a (wi0 .i64 (Int.fdiv (IntKind.u64.wrap (wi0 .i64 (a + c))) (2 ^ min (Int.toNat 1) (IntKind.bits .u64))))))))) else ((uQ a lC a0 j).bind fun d => some d))
def uO (g : Int) : Nat → (List Formula) → Int → Option (List Formula)
 | 0, _, _ => none
 | i + 1, c, a => (if (decide (a > g)) then ((mx c (wi0 .i64 (a - 1))).bind fun h => ((mx c a).bind fun d => ((mx c a).bind fun j => ((mx (c.set (Int.toNat a) h) (wi0 .i64 (a - 1))).bind fun k => (uO g i ((c.set (Int.toNat a) h).set (Int.toNat (wi0 .i64 (a - 1))) (⟨d.Op, d.K, d.kw, d.Kids⟩ : Formula)) (wi0 .i64 (a - 1))))))) else some c)
def qC (a0 : List Formula) (a2 : Int) (f4 : (Formula × Formula) → Option Int) : Nat → Int → Int → Option (List Formula)
 | 0, _, _ => none
 | d + 1, a, c => (if (decide (a < c)) then ((mx a0 a2).bind fun i => ((mx a0 (wi0 .i64 (Int.fdiv (IntKind.u64.wrap (wi0 .i64 (a + c))) (2 ^ min (Int.toNat 1) (IntKind.bits .u64))))).bind fun j => ((f4 (i, j)).bind fun h => (if (!(decide (h < 0))) then (qC a0 a2 f4 d (wi0 .i64 ((wi0 .i64 (Int.fdiv (IntKind.u64.wrap (wi0 .i64 (a + c))) (2 ^ min (Int.toNat 1) (IntKind.bits .u64)))) + 1)) c) else (qC a0 a2 f4 d a (wi0 .i64 (Int.fdiv (IntKind.u64.wrap (wi0 .i64 (a + c))) (2 ^ min (Int.toNat 1) (IntKind.bits .u64))))))))) else ((uO a lC a0 a2).bind fun g => some g))
def qx (a0 : List Formula) (d a3 a2 : Int) (f4 : (Formula × Formula) → Option Int) (rec : (List Formula) → Int → Int → Int → ((Formula × Formula) → Option Int) → Option (List Formula)) : Nat → Int → Int → Option (List Formula)
 | 0, _, _ => none
 | i + 1, a, c => (if (decide (a < c)) then ((mx a0 (wi0 .i64 ((wi0 .i64 ((wi0 .i64 ((wi0 .i64 (Int.fdiv (IntKind.u64.wrap (wi0 .i64 (d + a3))) (2 ^ min (Int.toNat 1) (IntKind.bits .u64)))) + a2)) - 1)) - (wi0 .i64 (Int.fdiv (IntKind.u64.wrap (wi0 .i64 (a + c))) (2 ^ min (Int.toNat 1) (IntKind.bits .u64))))))).bind fun o => ((mx a0 (wi0 .i64 (Int.fdiv (IntKind.u64.wrap (wi0 .i64 (a + c))) (2 ^ min (Int.toNat 1) (IntKind.bits .u64))))).bind fun q => ((f4 (o, q)).bind fun j => (if (!(decide (j < 0))) then (qx a0 d a3 a2 f4 rec i (wi0 .i64 ((wi0 .i64 (Int.fdiv (IntKind.u64.wrap (wi0 .i64 (a + c))) (2 ^ min (Int.toNat 1) (IntKind.bits .u64)))) + 1)) c) else (qx a0 d a3 a2 f4 rec i a (wi0 .i64 (Int.fdiv (IntKind.u64.wrap (wi0 .i64 (a + c))) (2 ^ min (Int.toNat 1) (IntKind.bits .u64))))))))) else ((((if (decide (a < a2)) then some (decide (a2 < (wi0 .i64 ((wi0 .i64 ((wi0 .i64 (Int.fdiv (IntKind.u64.wrap (wi0 .i64 (d + a3))) (2 ^ min (Int.toNat 1) (IntKind.bits .u64)))) + a2)) - a)))) else some false).bind fun u => (if u then ((AQ a0 a a2 (wi0 .i64 ((wi0 .i64 ((wi0 .i64 (Int.fdiv (IntKind.u64.wrap (wi0 .i64 (d + a3))) (2 ^ min (Int.toNat 1) (IntKind.bits .u64)))) + a2)) - a)) f4).bind fun n => some n) else some a0)) : Option (List Formula)).bind fun g => ((((if (decide (d < a)) then some (decide (a < (wi0 .i64 (Int.fdiv (IntKind.u64.wrap (wi0 .i64 (d + a3))) (2 ^ min (Int.toNat 1) (IntKind.bits .u64)))))) else some false).bind fun t => (if t then ((rec g d a (wi0 .i64 (Int.fdiv (IntKind.u64.wrap (wi0 .i64 (d + a3))) (2 ^ min (Int.toNat 1) (IntKind.bits .u64)))) f4).bind fun m => some m) else some g)) : Option (List Formula)).bind fun h => ((if (decide ((wi0 .i64 (Int.fdiv (IntKind.u64.wrap (wi0 .i64 (d + a3))) (2 ^ min (Int.toNat 1) (IntKind.bits .u64)))) < (wi0 .i64 ((wi0 .i64 ((wi0 .i64 (Int.fdiv (IntKind.u64.wrap (wi0 .i64 (d + a3))) (2 ^ min (Int.toNat 1) (IntKind.bits .u64)))) + a2)) - a)))) then some (decide ((wi0 .i64 ((wi0 .i64 ((wi0 .i64 (Int.fdiv (IntKind.u64.wrap (wi0 .i64 (d + a3))) (2 ^ min (Int.toNat 1) (IntKind.bits .u64)))) + a2)) - a)) < a3)) else some false).bind fun s => (if s then ((rec h (wi0 .i64 (Int.fdiv (IntKind.u64.wrap (wi0 .i64 (d + a3))) (2 ^ min (Int.toNat 1) (IntKind.bits .u64)))) (wi0 .i64 ((wi0 .i64 ((wi0 .i64 (Int.fdiv (IntKind.u64.wrap (wi0 .i64 (d + a3))) (2 ^ min (Int.toNat 1) (IntKind.bits .u64)))) + a2)) - a)) a3 f4).bind fun k => some k) else some h)))))
def yE (rec : (List Formula) → Int → Int → Int → ((Formula × Formula) → Option Int) → Option (List Formula)) (a0 : List Formula) (a a2 a3 : Int) (f4 : (Formula × Formula) → Option Int) : Option (List Formula) :=
 (if ((wi0 .i64 (a2 - a)) == 1) then qu a0 a f4 lC a2 a3 else (if ((wi0 .i64 (a3 - a2)) == 1) then qC a0 a2 f4 lC a a2 else (((if (decide (a2 > (wi0 .i64 (Int.fdiv (IntKind.u64.wrap (wi0 .i64 (a + a3))) (2 ^ min (Int.toNat 1) (IntKind.bits .u64)))))) then some ((wi0 .i64 ((wi0 .i64 ((wi0 .i64 (Int.fdiv (IntKind.u64.wrap (wi0 .i64 (a + a3))) (2 ^ min (Int.toNat 1) (IntKind.bits .u64)))) + a2)) - a3)), (wi0 .i64 (Int.fdiv (IntKind.u64.wrap (wi0 .i64 (a + a3))) (2 ^ min (Int.toNat 1) (IntKind.bits .u64))))) else some (a, a2)) : Option (Int × Int)).bind fun (c, d) => qx a0 a a3 a2 f4 rec lC c d)))
def rJ : Nat → (List Formula) → Int → Int → Int → ((Formula × Formula) → Option Int) → Option (List Formula)
 | 0 => fun _ _ _ _ _ => none
 | n + 1 => yE (rJ n)
def vy (j c : Int) (f2 : (Formula × Formula) → Option Int) : Nat → (List Formula) → Int → Int → Option ((List Formula) × Int)
 | 0, _, _, _ => none
 | h + 1, g, d, a => (if (decide (a ≤ j)) then ((rJ lC g d (wi0 .i64 (d + c)) a f2).bind fun i => (vy j c f2 h i a (wi0 .i64 (a + (wi0 .i64 (2 * c)))))) else some (g, d))
def vx (k : Int) (f2 : (Formula × Formula) → Option Int) : Nat → (List Formula) → Int → Option (List Formula)
 | 0, _, _ => none
 | i + 1, d, a => (if (decide (a < k)) then ((vy k a f2 lC d 0 (wi0 .i64 (2 * a))).bind fun (g, c) => (((if (decide ((wi0 .i64 (c + a)) < k)) then ((rJ lC g c (wi0 .i64 (c + a)) k f2).bind fun j => some j) else some g) : Option (List Formula)).bind fun h => (vx k f2 i h (wi0 .i64 (a * 2))))) else some d)
def vA (j : Int) (f2 : (Formula × Formula) → Option Int) : Nat → (List Formula) → Int → Int → Option (List Formula)
 | 0, _, _, _ => none
 | n123 + 1, d, i, a => (if (decide (a ≤ j)) then ((tS d i a f2).bind fun g => (vA j f2 n123 g a (wi0 .i64 (a + 20)))) else ((tS d i j f2).bind fun h => ((vx j f2 lC h 20).bind fun c => some c)))
def Bc (a0 : List Formula) (a : Int) (f2 : (Formula × Formula) → Option Int) : Option (List Formula) :=
 vA a f2 lC a0 0 20
def AM (a0 : List Formula) (f1 : (Formula × Formula) → Option Int) : Option (List Formula) :=
 ((Bc a0 (a0.length : Int) f1).bind fun a => some a)
def BV (rec : (List Int) → Formula → Option (List Int)) : List Formula → (List Int) → Option (List Int)
 | [], a => some a
 | g :: c, a => ((rec a g).bind fun d => (BV rec c d))
def F6 (rec : (List Int) → Formula → Option (List Int)) (c : List Int) (a : Formula) : Option (List Int) :=
 ((mV c a.Op).bind fun i => (if (a.Op == 1) then ((oU i.2 a.kw).bind fun h => some h.2) else (((if (a.Op == 4) then ((mV i.2 a.K).bind fun d => some d.2) else some i.2) : Option (List Int)).bind fun g => ((mV g (a.Kids.length : Int)).bind fun j => BV rec a.Kids j.2))))
def Ef : Nat → (List Int) → Formula → Option (List Int)
 | 0 => fun _ _ => none
 | n + 1 => F6 (Ef n)
def JK (a : List Int) (c : Formula) : Option (Bool × (List Int)) :=
 ((qO c).bind fun d => (if (!d) then some (false, a) else ((Ef lC a c).bind fun g => some (true, g))))
def CC (a0 : Formula) : Option (List Int) :=
 ((JK ([]) a0).bind fun c => ((qk c.2).bind fun a => some a))
def H3 (a0 g : Formula) : Option Int :=
 ((CC a0).bind fun a => ((CC g).bind fun c => ((Bl a c).bind fun d => some d)))
def Ft (a0 : List Formula) : Option (List Formula) :=
 ((ES a0).bind fun c => ((AM c (fun (x : (Formula × Formula)) => H3 x.1 x.2)).bind fun a => some a))
def wh (c : Int) (f1 : (Formula × Formula) → Option Bool) : Nat → (List Formula) → Int → Int → Option ((List Formula) × Int)
 | 0, _, _, _ => none
 | i + 1, a, d, g => (if (decide (g < ((a.length - (Int.toNat c) : Nat) : Int))) then ((((mx (a.drop (Int.toNat c)) g).bind fun m => ((mx (a.drop (Int.toNat c)) (wi0 .i64 (g - 1))).bind fun n => ((f1 (m, n)).bind fun j => (if (!j) then ((mx (a.drop (Int.toNat c)) g).bind fun o => ((mx a d).bind fun q => some ((a.set (Int.toNat d) o), (wi0 .i64 (d + 1))))) else some (a, d))))) : Option ((List Formula) × Int)).bind fun (h, k) => (wh c f1 i h k (wi0 .i64 (g + 1)))) else some (a, d))
def wg (a0 : List Formula) (f1 : (Formula × Formula) → Option Bool) : Nat → Int → Option (List Formula)
 | 0, _ => none
 | g + 1, a => (if (decide (a < (a0.length : Int))) then ((mx a0 a).bind fun i => ((mx a0 (wi0 .i64 (a - 1))).bind fun j => ((f1 (i, j)).bind fun h => (if h then ((nG (decide (0 ≤ a) && decide (a ≤ (a0.length : Int)))).bind fun _ => ((wh a f1 lC a0 a 1).bind fun (d, c) => ((nG (decide (0 ≤ c) && decide (c ≤ (d.length : Int)))).bind fun _ => ((nG (decide (0 ≤ c) && decide (c ≤ ((oA d (Int.toNat c) (⟨0, 0, (⟨zS, zS⟩ : kw), []⟩ : Formula)).length : Int)))).bind fun _ => some ((oA d (Int.toNat c) (⟨0, 0, (⟨zS, zS⟩ : kw), []⟩ : Formula)).take (Int.toNat c)))))) else (wg a0 f1 g (wi0 .i64 (a + 1))))))) else some a0)
def BB (a0 : List Formula) (f1 : (Formula × Formula) → Option Bool) : Option (List Formula) :=
 (if (decide ((a0.length : Int) < 2)) then some a0 else wg a0 f1 lC 1)
def nT (h : List Formula) (f2 : (Formula × Formula) → Option Bool) : List Formula → Nat → Option Bool
 | [], _ => some true
 | g :: d, i95 => ((mx h (i95 : Int)).bind fun c => ((f2 (g, c)).bind fun a => (if (!a) then some false else (nT h f2 d (i95 + 1)))))
def rV (a0 a : List Formula) (f2 : (Formula × Formula) → Option Bool) : Option Bool :=
 (if ((a0.length : Int) != (a.length : Int)) then some false else nT a f2 a0 0)
def GJ (rec : Formula → Formula → Option Bool) (a0 a : Formula) : Option Bool :=
 ((if (a0.Op == a.Op) then some (a0.K == a.K) else some false).bind fun d => ((if d then some (kN a0.kw a.kw) else some false).bind fun g => ((if g then ((rV a0.Kids a.Kids (fun (x : (Formula × Formula)) => rec x.1 x.2)).bind fun c => some c) else some false).bind fun h => some h)))
def Fg : Nat → Formula → Formula → Option Bool
 | 0 => fun _ _ => none
 | n + 1 => GJ (Fg n)
def vS (a0 : nu) (d : Int) (a2 : List Formula) : Option (Formula × nu) :=
 ((Mj d a2).bind fun j => ((oK j (fun (x : Formula) => CG x (wi0 .i64 (5 - d)))).bind fun g => (if g then some ((⟨(wi0 .i64 (5 - d)), 0, (⟨zS, zS⟩ : kw), []⟩ : Formula), a0) else ((Ft j).bind fun h => ((BB h (fun (x : (Formula × Formula)) => Fg lC x.1 x.2)).bind fun a => (((if (decide ((a.length : Int) > 64)) then some (⟨12⟩ : nu) else some a0) : Option nu).bind fun c => (if ((a.length : Int) == 1) then ((mx a 0).bind fun i => some (i, c)) else some ((⟨d, 0, (⟨zS, zS⟩ : kw), a⟩ : Formula), c))))))))
def qy (a0 : nu) : List Formula → Int → (List Formula) → Option (Formula × nu)
 | [], c, a => (if (decide (c ≤ 0)) then (JB.bind fun n => some (n, a0)) else (if (decide (c > (a.length : Int))) then (Kp.bind fun o => some (o, a0)) else (if (c == (a.length : Int)) then ((vS a0 2 a).bind fun h => some (h.1, h.2)) else (if (c == 1) then ((vS a0 3 a).bind fun i => some (i.1, i.2)) else ((Ft a).bind fun q => some ((⟨4, c, (⟨zS, zS⟩ : kw), q⟩ : Formula), a0))))))
 | g :: d, c, a => ((Bz g 2).bind fun k => (if k then (qy a0 d (wi0 .i64 (c - 1)) a) else ((Bz g 3).bind fun m => (if (!m) then ((mJ 72 a ([g])).bind fun j => (qy a0 d c j)) else (qy a0 d c a)))))
def CK (a0 : nu) (a : Int) (a2 : List Formula) : Option (Formula × nu) :=
 qy a0 a2 a ([])
def yg (rec : nu → Formula → Option (Formula × nu)) (m : Formula) : List Formula → (List Formula) → nu → Option (Formula × nu)
 | [], a, c => (if (m.Op == 4) then ((CK c m.K a).bind fun g => some (g.1, g.2)) else ((vS c m.Op a).bind fun h => some (h.1, h.2)))
 | k :: i, a, c => ((rec c k).bind fun d => ((mJ 72 a ([d.1])).bind fun j => (yg rec m i j d.2)))
def BJ (rec : nu → Formula → Option (Formula × nu)) (a0 : nu) (a : Formula) : Option (Formula × nu) :=
 (if (a.Op == 1) then some (a, a0) else yg rec a a.Kids ([]) a0)
def zH : Nat → nu → Formula → Option (Formula × nu)
 | 0 => fun _ _ => none
 | n + 1 => BJ (zH n)
def It (a0 : Formula) : Option (Formula × Int) :=
 ((qO a0).bind fun g => (if (!g) then some ((⟨0, 0, (⟨zS, zS⟩ : kw), []⟩ : Formula), 11) else ((zH lC (⟨0⟩ : nu) a0).bind fun a => ((if (a.2.e != 0) then some true else ((qO a.1).bind fun c => some (!c))).bind fun d => (if d then some ((⟨0, 0, (⟨zS, zS⟩ : kw), []⟩ : Formula), 12) else some (a.1, 0))))))
def LU (a0 c : Formula) : Option (Formula × Int) :=
 ((It (⟨2, 0, (⟨zS, zS⟩ : kw), [a0, c]⟩ : Formula)).bind fun a => some (a.1, a.2))
def E5  : List Formula → Int → Int → Int → kw → (List Formula) → Option (Int × Int × Int × kw × (List Formula))
 | [], d, g, h, i, c => some (d, g, h, i, c)
 | k :: j, d, g, h, i, c => (if (d != 0) then some (d, g, h, i, c) else ((LU (⟨g, h, i, c⟩ : Formula) k).bind fun a => (E5 j a.2 ((a.1).Op) ((a.1).K) ((a.1).kw) ((a.1).Kids))))
def OG (a0 : List Formula) : Option (Formula × Int) :=
 ((mx a0 0).bind fun x6 => ((It x6).bind fun a => ((nG (decide (0 ≤ 1) && decide (1 ≤ (a0.length : Int)))).bind fun _ => ((E5 (a0.drop (Int.toNat 1)) a.2 ((a.1).Op) ((a.1).K) ((a.1).kw) ((a.1).Kids)).bind fun (c, g, h, i, d) => (if (c != 0) then some ((⟨0, 0, (⟨zS, zS⟩ : kw), []⟩ : Formula), c) else some ((⟨g, h, i, d⟩ : Formula), 0))))))
def Gu  : List vd → (List Formula) → Option (Formula × Int)
 | [], a => ((OG a).bind fun c => some (c.1, c.2))
 | h :: d, a => ((mJ 72 a ([h.lo])).bind fun g => (Gu d g))
def Q2 (a0 : lR) (d : ky) : Option (Formula × Int) :=
 ((M6 a0 d).bind fun a => (if (!a.2) then some ((⟨0, 0, (⟨zS, zS⟩ : kw), []⟩ : Formula), 42) else ((L7 a0 d).bind fun c => Gu c ([(a.1).lo]))))
def ql (rec : Formula → (kw → Option Bool) → Option Bool) (f1 : kw → Option Bool) (a0 : Formula) : List Formula → Int → Option Bool
 | [], a => (if (a0.Op == 2) then some (a == (a0.Kids.length : Int)) else (if (a0.Op == 3) then some (decide (a > 0)) else some (decide (a ≥ a0.K))))
 | g :: c, a => ((rec g f1).bind fun d => (if d then (ql rec f1 a0 c (wi0 .i64 (a + 1))) else (ql rec f1 a0 c a)))
def xM (rec : Formula → (kw → Option Bool) → Option Bool) (a0 : Formula) (f1 : kw → Option Bool) : Option Bool :=
 (if (a0.Op == 1) then ((f1 a0.kw).bind fun a => some a) else ql rec f1 a0 a0.Kids 0)
def qN : Nat → Formula → (kw → Option Bool) → Option Bool
 | 0 => fun _ _ => none
 | n + 1 => xM (qN n)
def vC (a0 : Formula) (f1 : kw → Option Bool) : Option Bool :=
 ((qO a0).bind fun d => ((if d then ((qN lC a0 f1).bind fun a => some a) else some false).bind fun c => some c))
def JN (a0 : kw) (h : List (kw × (List (ByteArray × Bool)))) (a : List ky) (g : List (kw × (List ky))) (c : List (ByteArray × (List ky))) (d : List kB) (i : Int) (c1 : ByteArray) : Option Bool :=
 ((tB h a g c d i a0 c1).bind fun j => some j)
def Bb (a0 : lR) (d : ((List (kw × (List (ByteArray × Bool)))) × (List ky) × (List (kw × (List ky))) × (List (ByteArray × (List ky))) × (List kB) × Int × ByteArray)) : List nS → (List ky) → Option (List ky)
 | [], a => ((Ba a).bind fun j => some j)
 | g :: c, a => ((Q2 a0 g.Signed.ky).bind fun r417 => ((if (r417.2 == 0) then ((vC r417.1 (fun (x : kw) => JN x d.1 d.2.1 d.2.2.1 d.2.2.2.1 d.2.2.2.2.1 d.2.2.2.2.2.1 d.2.2.2.2.2.2)).bind fun i => some i) else some false).bind fun k => (if k then ((mJ 136 a ([g.Signed.ky])).bind fun h => (Bb a0 d c h)) else (Bb a0 d c a))))
def G3 (a0 : lR) (a : List ky) (a2 : ByteArray) : Option (List ky) :=
 ((NE a a2).bind fun c => Bb a0 c a0.nr ([]))
def Fb (a0 k : lR) : Nat → (List ky) → (List ky) → Int → Option ((List ky) × (List ky) × Int)
 | 0, _, _, _ => none
 | i + 1, a, c, h => ((G3 a0 c k.Name).bind fun d => ((G3 k a a0.Name).bind fun g => ((if ((d.length : Int) == (a.length : Int)) then some ((g.length : Int) == (c.length : Int)) else some false).bind fun j => (if j then some (a, c, h) else (Fb a0 k i d g (wi0 .i64 (h + 1)))))))
def OE (a0 a : lR) : Option ((List ky) × (List ky) × Int) :=
 Fb a0 a lC ([]) ([]) 0
def qf (rec : (List Formula) → Option Int) : List Formula → Int → Option Int
 | [], c => some c
 | a :: g, c => ((rec a.Kids).bind fun d => (qf rec g (wi0 .i64 (c + (wi0 .i64 ((wi0 .i64 (1 + (wi0 .i64 (Int.tdiv (wi0 .i64 ((a.kw.kE.size : Int) + (a.kw.kT.size : Int))) 16)))) + d))))))
def wF (rec : (List Formula) → Option Int) (a0 : List Formula) : Option Int :=
 qf rec a0 0
def nU : Nat → (List Formula) → Option Int
 | 0 => fun _ => none
 | n + 1 => wF (nU n)
def tG  : List vd → Int → Option Int
 | [], c => some c
 | a :: d, c => ((nU lC ([a.lo])).bind fun g => ((ru a.qv).bind fun h => (tG d (wi0 .i64 (c + (wi0 .i64 ((wi0 .i64 ((wi0 .i64 ((a.kw.kE.size : Int) + (a.kw.kT.size : Int))) + (wi0 .i64 (20 * g)))) + h)))))))
def tm (a0 : lR) : List nS → Int → Option Int
 | [], a => ((tG a0.oq a).bind fun d => some d)
 | c :: g, a => ((((Aq ([]) ([c.Signed])).bind fun j => some (j, ([c.lo]))) : Option (Int × (List Formula))).bind fun (k, h) => ((nU lC h).bind fun i => (tm a0 g (wi0 .i64 (a + (wi0 .i64 (k + (wi0 .i64 (20 * i)))))))))
def Ap (a0 : lR) : Option Int :=
 tm a0 a0.nr (a0.Name.size : Int)
def rF (h : ByteArray) : List kB → (List kw) → Option (List kw)
 | [], a => some a
 | g :: c, a => (if (ma g.lx h) then ((mJ 32 a ([g.kw])).bind fun d => (rF h c d)) else (rF h c a))
def xS (a0 : List kB) (a : ByteArray) : Option (List kw) :=
 rF a a0 ([])
def tD (rec : Formula → Option Int) : List Formula → Int → Option Int
 | [], a => some a
 | g :: d, a => ((rec g).bind fun c => (tD rec d (wi0 .i64 (a + c))))
def yP (rec : Formula → Option Int) (a0 : Formula) : Option Int :=
 tD rec a0.Kids 1
def sO : Nat → Formula → Option Int
 | 0 => fun _ => none
 | n + 1 => yP (sO n)
def uA (rec : Formula → Option Int) : List Formula → Int → Option Int
 | [], a => some (wi0 .i64 (a + 1))
 | g :: d, a => ((rec g).bind fun c => (uA rec d (if c > a then c else a)))
def zM (rec : Formula → Option Int) (a0 : Formula) : Option Int :=
 uA rec a0.Kids 0
def ud : Nat → Formula → Option Int
 | 0 => fun _ => none
 | n + 1 => zM (ud n)
def uM (rec : Formula → Option Bool) : List Formula → Option Bool
 | [] => some true
 | d :: a => ((rec d).bind fun c => (if (!c) then some false else (uM rec a)))
def zJ (rec : Formula → Option Bool) (a0 : Formula) : Option Bool :=
 (if (a0.Op == 1) then ((sS a0.kw).bind fun o => ((if o then some ((a0.Kids.length : Int) == 0) else some false).bind fun h => ((if h then some (a0.K == 0) else some false).bind fun i => some i))) else ((if (decide (a0.Op < 1)) then some true else some (decide (a0.Op > 4))).bind fun j => ((if j then some true else some (!(kN a0.kw (⟨zS, zS⟩ : kw)))).bind fun k => ((if k then some true else some (decide ((a0.Kids.length : Int) > 8))).bind fun m => (if m then some false else ((if (decide (a0.Op < 4)) then some (a0.K != 0) else some false).bind fun n => ((if n then some true else ((if (a0.Op == 4) then ((if (decide ((a0.Kids.length : Int) < 1)) then some true else some (decide (a0.K < 0))).bind fun d => ((if d then some true else some (decide (a0.K > (a0.Kids.length : Int)))).bind fun g => some g)) else some false).bind fun c => some c)).bind fun a => (if a then some false else uM rec a0.Kids))))))))
def ur : Nat → Formula → Option Bool
 | 0 => fun _ => none
 | n + 1 => zJ (ur n)
def xU (a0 : Formula) : Option Bool :=
 ((sO lC a0).bind fun h => ((if (decide (h ≤ 64)) then ((ud lC a0).bind fun c => some (decide (c ≤ 6))) else some false).bind fun d => ((if d then ((ur lC a0).bind fun a => some a) else some false).bind fun g => some g)))
def zj (d : kw) : List kw → Option Bool
 | [] => some false
 | c :: a => (if (kN c d) then some true else (zj d a))
def zP (a0 : List kw) (a : kw) : Option Bool :=
 zj a a0
def sD (rec : Formula → (List kw) → Option Bool) (g : List kw) (a0 : Formula) : List Formula → Int → Option Bool
 | [], a => (if (a0.Op == 2) then some (a == (a0.Kids.length : Int)) else (if (a0.Op == 3) then some (decide (a > 0)) else some (decide (a ≥ a0.K))))
 | h :: c, a => ((rec h g).bind fun d => (if d then (sD rec g a0 c (wi0 .i64 (a + 1))) else (sD rec g a0 c a)))
def zL (rec : Formula → (List kw) → Option Bool) (a0 : Formula) (a : List kw) : Option Bool :=
 (if (a0.Op == 1) then ((zP a a0.kw).bind fun c => some c) else sD rec a a0 a0.Kids 0)
def sd : Nat → Formula → (List kw) → Option Bool
 | 0 => fun _ _ => none
 | n + 1 => zL (sd n)
def LF (a0 d : lR) : Option ((List ky) × (List (kw × (List (ByteArray × Bool)))) × (List ky) × (List (kw × (List ky))) × (List (ByteArray × (List ky))) × (List kB) × Int × ByteArray) :=
 ((OE a0 d).bind fun c => ((xL c.2.1).bind fun a => some (c.2.1, a.1, a.2.1, a.2.2.1, a.2.2.2.1, a.2.2.2.2.1, a.2.2.2.2.2, d.Name)))
def IJ (a0 : kw) (h : List (kw × (List (ByteArray × Bool)))) (a : List ky) (g : List (kw × (List ky))) (c : List (ByteArray × (List ky))) (d : List kB) (j : Int) (i : ByteArray) (k : List nS) (m : List vd) : Option Bool :=
 ((tB h a g c d j a0 i).bind fun n => some n)
def JS (a0 c : lR) (a2 : Formula) : Option Bool :=
 ((LF a0 c).bind fun a => ((vC a2 (fun (x : kw) => IJ x a.2.1 a.2.2.1 a.2.2.2.1 a.2.2.2.2.1 a.2.2.2.2.2.1 a.2.2.2.2.2.2.1 a.2.2.2.2.2.2.2 c.nr c.oq)).bind fun d => some d))
def Eo (a0 : tH) : Option ((List (kw × (List (ByteArray × Bool)))) × (List ky) × (List (kw × (List ky))) × (List (ByteArray × (List ky))) × (List kB) × Int × ByteArray × ByteArray × Int) :=
 ((xL a0.lH).bind fun a => some (a.1, a.2.1, a.2.2.1, a.2.2.2.1, a.2.2.2.2.1, a.2.2.2.2.2, a0.lR.Name, a0.og, a0.Room))
def yY (a0 : kw) (i : List (kw × (List (ByteArray × Bool)))) (a : List ky) (g : List (kw × (List ky))) (c : List (ByteArray × (List ky))) (d : List kB) (o : Int) (k : ByteArray) (h : List nS) (j : List vd) (m : ByteArray) (u : Int) (n t : List ky) (q s : List kw) : Option Bool :=
 ((tB i a g c d o a0 m).bind fun v => some v)
def tK  : List kw → Int → Option Int
 | [], a => some a
 | c :: d, a => (tK d (wi0 .i64 (a + (wi0 .i64 ((wi0 .i64 (5 + (c.kE.size : Int))) + (c.kT.size : Int))))))
def Ak (a0 : tH) : Option Int :=
 ((Ap a0.lR).bind fun d => ((ru a0.lH).bind fun g => ((ru a0.Shown).bind fun h => ((mJ 32 ([]) a0.mA).bind fun a => ((mJ 32 a a0.qz).bind fun c => tK c (wi0 .i64 ((wi0 .i64 ((wi0 .i64 (d + (a0.og.size : Int))) + g)) + h)))))))
def sW (a0 : List kw) : Option (List kw) :=
 ((mJ 32 ([]) a0).bind fun a => some a)
def nk (f1 : kw → Option Bool) : List kw → Nat → Option Int
 | [], _ => some (-1)
 | d :: a, i35 => ((f1 d).bind fun c => (if c then some (i35 : Int) else (nk f1 a (i35 + 1))))
def ph (a0 : List kw) (f1 : kw → Option Bool) : Option Int :=
 nk f1 a0 0
def nY (f1 : kw → Option Bool) : Nat → (List kw) → Int → Int → Option (List kw)
 | 0, _, _, _ => none
 | n321 + 1, c, a, d => (if (decide (d < (c.length : Int))) then ((((mx c d).bind fun g => ((f1 g).bind fun i => (if (!i) then ((mx c a).bind fun k => some ((c.set (Int.toNat a) g), (wi0 .i64 (a + 1)))) else some (c, a)))) : Option ((List kw) × Int)).bind fun (h, j) => (nY f1 n321 h j (wi0 .i64 (d + 1)))) else ((nG (decide (0 ≤ a) && decide (a ≤ (c.length : Int)))).bind fun _ => ((nG (decide (0 ≤ a) && decide (a ≤ ((oA c (Int.toNat a) (⟨zS, zS⟩ : kw)).length : Int)))).bind fun _ => some ((oA c (Int.toNat a) (⟨zS, zS⟩ : kw)).take (Int.toNat a)))))
def rZ (a0 : List kw) (f1 : kw → Option Bool) : Option (List kw) :=
 ((ph a0 f1).bind fun a => (if (a == (-1)) then some a0 else nY f1 lC a0 a (wi0 .i64 (a + 1))))
def Ao (a0 : kw) : Option Bool :=
 ((pA a0).bind fun a => some (!a))
def oR (c : Int) : Nat → (List kw) → Int → Int → Option ((List kw) × Int)
 | 0, _, _, _ => none
 | i + 1, a, d, g => (if (decide (g < ((a.length - (Int.toNat c) : Nat) : Int))) then ((((mx (a.drop (Int.toNat c)) g).bind fun k => ((mx (a.drop (Int.toNat c)) (wi0 .i64 (g - 1))).bind fun m => (if (!(kN k m)) then ((mx (a.drop (Int.toNat c)) g).bind fun n => ((mx a d).bind fun o => some ((a.set (Int.toNat d) n), (wi0 .i64 (d + 1))))) else some (a, d)))) : Option ((List kw) × Int)).bind fun (h, j) => (oR c i h j (wi0 .i64 (g + 1)))) else some (a, d))
def oX (a0 : List kw) : Nat → Int → Option (List kw)
 | 0, _ => none
 | g + 1, a => (if (decide (a < (a0.length : Int))) then ((mx a0 a).bind fun h => ((mx a0 (wi0 .i64 (a - 1))).bind fun i => (if (kN h i) then ((nG (decide (0 ≤ a) && decide (a ≤ (a0.length : Int)))).bind fun _ => ((oR a lC a0 a 1).bind fun (d, c) => ((nG (decide (0 ≤ c) && decide (c ≤ (d.length : Int)))).bind fun _ => ((nG (decide (0 ≤ c) && decide (c ≤ ((oA d (Int.toNat c) (⟨zS, zS⟩ : kw)).length : Int)))).bind fun _ => some ((oA d (Int.toNat c) (⟨zS, zS⟩ : kw)).take (Int.toNat c)))))) else (oX a0 g (wi0 .i64 (a + 1)))))) else some a0)
def uP (a0 : List kw) : Option (List kw) :=
 (if (decide ((a0.length : Int) < 2)) then some a0 else oX a0 lC 1)
def CN (a0 : List kw) : Option (List kw) :=
 ((sW a0).bind fun g => ((rZ g (fun (x : kw) => Ao x)).bind fun a => ((yA (fun (x : (kw × kw)) => nw x.1 x.2) a).bind fun c => ((uP c).bind fun d => some d))))
def rf (g : List kw) : List kw → Nat → Option Bool
 | [], _ => some true
 | d :: c, i90 => ((mx g (i90 : Int)).bind fun a => (if (!(kN d a)) then some false else (rf g c (i90 + 1))))
def vZ (a0 a : List kw) : Option Bool :=
 (if ((a0.length : Int) != (a.length : Int)) then some false else rf a a0 0)
def tf (a : List kw) : List kw → Bool → kw → Option (Bool × kw)
 | [], d, g => some (d, g)
 | c :: h, d, g => ((sS c).bind fun i => ((if i then ((if ((a.length : Int) == 0) then some true else ((mx a (wi0 .i64 ((a.length : Int) - 1))).bind fun s => ((qZ s c).bind fun k => some k))).bind fun q => some q) else some false).bind fun m => ((if m then ((if (!d) then some true else ((qZ c g).bind fun j => some j)).bind fun o => some o) else some false).bind fun n => (if n then (tf a h true c) else (tf a h d g)))))
def vG (a0 : List kw) : Nat → (List kw) → Option (List kw)
 | 0, _ => none
 | d + 1, a => ((tf a a0 false (⟨zS, zS⟩ : kw)).bind fun (g, h) => (if (!g) then some a else ((mJ 32 a ([h])).bind fun c => (vG a0 d c))))
def ET (a0 : List kw) : Option (List kw) :=
 vG a0 lC ([])
def wE (g : List kw) : List kw → Nat → Option Bool
 | [], _ => some true
 | d :: c, i90 => ((mx g (i90 : Int)).bind fun a => (if (!(kN d a)) then some false else (wE g c (i90 + 1))))
def yV (a0 a : List kw) : Option Bool :=
 (if ((a0.length : Int) != (a.length : Int)) then some false else wE a a0 0)
def tX (c : Int) : Option (List kV) :=
 (if (decide (c < 0)) then none else (((if (decide ((wi0 .i64 (c - (wi0 .i64 (0 - 0)))) > 0)) then ((J1 184 (⟨(⟨0, (⟨zS, zS⟩ : kw), zS, (⟨zS, zS⟩ : kw), (⟨zS, zS⟩ : kw), zS⟩ : ky), (⟨(⟨zS, zS⟩ : kw), zS⟩ : kB)⟩ : kV) (wi0 .i64 (c - (wi0 .i64 (0 - 0))))).bind fun a => ((nG (decide (0 ≤ 0) && decide (0 ≤ (a.length : Int)))).bind fun _ => some (a.take (Int.toNat 0)))) else some ([])) : Option (List kV)).bind fun d => some d))
def pq  : List (List kV) → (List kV) → Option (List kV)
 | [], a => some a
 | g :: c, a => ((mJ 184 a g).bind fun d => (pq c d))
def pk (a0 : List (List kV)) : List (List kV) → Int → Option (List kV)
 | [], a => ((tX a).bind fun h => ((pq a0 h).bind fun c => some c))
 | d :: g, a => (if (decide ((wi0 .i64 (a + (d.length : Int))) < 0)) then none else (pk a0 g (wi0 .i64 (a + (d.length : Int)))))
def xR (a0 : List (List kV)) : Option (List kV) :=
 pk a0 a0 0
def rM  : List kV → (List (kB × Bool)) → (List kV) → Option (List kV)
 | [], a, c => some c
 | g :: d, a, c => (if (!(zx nq a g.kB false)) then ((mJ 184 c ([g])).bind fun h => (rM d (oh nq a g.kB true) h)) else (rM d a c))
def Ar (a0 : List (List kV)) : Option (List kV) :=
 ((xR a0).bind fun a => rM a ([]) ([]))
def yB (g : List kV) : List kV → Nat → Option Bool
 | [], _ => some true
 | d :: c, i90 => ((mx g (i90 : Int)).bind fun a => (if (!(Df d a)) then some false else (yB g c (i90 + 1))))
def Dv (a0 a : List kV) : Option Bool :=
 (if ((a0.length : Int) != (a.length : Int)) then some false else yB a a0 0)
def tR  : List kV → (List kB) → Option (List kB)
 | [], a => some a
 | g :: d, a => ((mJ 48 a ([g.kB])).bind fun c => (tR d c))
def wA (a0 : List kV) : Option (List kB) :=
 tR a0 ([])
def tz  : List kB → (List ByteArray) → Option (List ByteArray)
 | [], a => some a
 | g :: d, a => ((mJ 16 a ([g.lx])).bind fun c => (tz d c))
def Cy (a0 : List kB) : Option (List ByteArray) :=
 tz a0 ([])
def yy (a0 : kV) (i : List kB) : Option Bool :=
 ((wy a0.ky).bind fun a => ((if a then some (kN a0.kB.kw a0.ky.Head) else some false).bind fun g => ((if g then ((Cy i).bind fun c => ((yO i a0.ky c a0.kB.lx).bind fun d => some d)) else some false).bind fun h => some h)))
def tL (n : List ky) (a0 : List kV) (a2 : kB) : List kV → Nat → Option (Int × Int)
 | [], _ => ((wA a0).bind fun j => ((tW j a2.kw a2.lx).bind fun k => (if (!k) then some ((a0.length : Int), 42) else some ((a0.length : Int), 0))))
 | c :: d, a => ((BS n c.ky).bind fun g => ((if (!g) then some true else ((nG (decide (0 ≤ (a : Int)) && decide ((a : Int) ≤ (a0.length : Int)))).bind fun _ => ((wA (a0.take (Int.toNat (a : Int)))).bind fun h => ((yy c h).bind fun i => some (!i))))).bind fun m => (if m then some ((a : Int), 50) else (tL n a0 a2 d (a + 1)))))
def Cp (a0 : List kV) (a : List ky) (a2 : kB) : Option (Int × Int) :=
 tL a a0 a2 a0 0
def tP (k : List ky) (j : List kB) (a2 : kB) (a0 : List kV) : List kV → Nat → Option (Int × Int)
 | [], _ => ((qT j a2).bind fun h => (if (!h) then some ((a0.length : Int), 42) else some ((a0.length : Int), 0)))
 | a :: c, i339 => ((zz k a.ky).bind fun d => ((if (!d) then some true else ((nG (decide (0 ≤ (i339 : Int)) && decide ((i339 : Int) ≤ (j.length : Int)))).bind fun _ => ((uK a (j.take (Int.toNat (i339 : Int)))).bind fun g => some (!g)))).bind fun i => (if i then some ((i339 : Int), 50) else (tP k j a2 a0 c (i339 + 1)))))
def xX (a0 : List kV) (a : List ky) (a2 : kB) : Option (Int × Int) :=
 ((wx a0).bind fun c => tP a c a2 a0 a0 0)
def rN (rec : Formula → Option (List kw)) : List Formula → (List kw) → Option (List kw)
 | [], a => some a
 | h :: c, a => ((rec h).bind fun g => ((mJ 32 a g).bind fun d => (rN rec c d)))
def xI (rec : Formula → Option (List kw)) (a0 : Formula) : Option (List kw) :=
 (if (a0.Op == 1) then some [a0.kw] else rN rec a0.Kids ([]))
def sc : Nat → Formula → Option (List kw)
 | 0 => fun _ => none
 | n + 1 => xI (sc n)
def uH (a0 : Formula) : Option (List kw) :=
 ((sc lC a0).bind fun c => ((CN c).bind fun a => some a))
def rc (d : kw) : List kw → Nat → Option Int
 | [], _ => some (-1)
 | c :: a, i46 => (if (kN d c) then some (i46 : Int) else (rc d a (i46 + 1)))
def yp (a0 : List kw) (a : kw) : Option Int :=
 rc a a0 0
def wZ (a0 : List kw) (a : kw) : Option Bool :=
 ((yp a0 a).bind fun c => some (decide (c ≥ 0)))
def CR (a0 : List kw) (a : kw) : Option Bool :=
 ((wZ a0 a).bind fun c => some c)
def Af (a0 : tH) : Option (List kw) :=
 ((zh a0.lH).bind fun a => ((xS a a0.og).bind fun c => some c))
def nW (g : Int) : List kw → Nat → (List kw) → Option (List kw)
 | [], _, a => some a
 | h :: c, i72, a => ((nG (decide (0 ≤ (i72 : Int)))).bind fun _ => (if ((wi0 .i64 (BitVec.ofInt (IntKind.bits .i64) (Int.fdiv g (2 ^ min (Int.toNat (i72 : Int)) (IntKind.bits .i64))) &&& BitVec.ofInt (IntKind.bits .i64) 1).toNat) == 1) then ((mJ 32 a ([h])).bind fun d => (nW g c (i72 + 1) d)) else (nW g c (i72 + 1) a)))
def rz (a0 : List kw) (a : Int) : Option (List kw) :=
 nW a a0 0 ([])
def qh (a0 : kw) (a : List kw) : Option Bool :=
 ((CR a a0).bind fun c => some c)
def oy (a0 : Formula) (a : List kw) : Option Bool :=
 ((vC a0 (fun (x : kw) => qh x a)).bind fun c => some c)
def pe (c : Nat) (g : List Bool) (h : Bool) : List kw → Nat → Bool → Option Bool
 | [], _, d => some d
 | n :: i, a, d => ((if d then some true else ((nG (decide (0 ≤ (a : Int)))).bind fun _ => ((if ((wi0 .i64 (BitVec.ofInt (IntKind.bits .i64) (Int.fdiv (c : Int) (2 ^ min (Int.toNat (a : Int)) (IntKind.bits .i64))) &&& BitVec.ofInt (IntKind.bits .i64) 1).toNat) == 1) then ((nG (decide (0 ≤ (a : Int)))).bind fun _ => ((mx (g.set (Int.toNat (c : Int)) h) (wi0 .i64 (BitVec.ofInt (IntKind.bits .i64) (c : Int) &&& ~~~ BitVec.ofInt (IntKind.bits .i64) (wi0 .i64 (1 * 2 ^ min (Int.toNat (a : Int)) (IntKind.bits .i64)))).toNat)).bind fun m => some m)) else some false).bind fun k => some k))).bind fun j => (pe c g h i (a + 1) j))
def oZ (o : List kw) (a0 : Formula) : List Bool → Nat → (List Bool) → (List Int) → Option (List Int)
 | [], _, c, d => some d
 | q :: h, a, c, d => ((rz o (a : Int)).bind fun j => ((oy a0 j).bind fun g => ((mx c (a : Int)).bind fun s => ((pe a c g o 0 false).bind fun k => ((mx (c.set (Int.toNat (a : Int)) g) (a : Int)).bind fun m => ((if m then some (!k) else some false).bind fun n => (if n then ((mJ 8 d ([(a : Int)])).bind fun i => (oZ o a0 h (a + 1) (c.set (Int.toNat (a : Int)) g) i)) else (oZ o a0 h (a + 1) (c.set (Int.toNat (a : Int)) g) d))))))))
def xu (a0 : Formula) (a : List kw) : Option (List Int) :=
 ((nG (decide (0 ≤ (a.length : Int)))).bind fun _ => ((FA 1 false (wi0 .i64 (1 * 2 ^ min (Int.toNat (a.length : Int)) (IntKind.bits .i64)))).bind fun c => oZ a a0 c 0 c ([])))
def yx (a0 : Int) : Option Bool :=
 some (a0 != a0)
def uY (a0 a : Int) : Option Int :=
 ((yx a0).bind fun d => ((yx a).bind fun c => (if d then (if c then some 0 else some (-1)) else (if c then some 1 else (if (decide (a0 < a)) then some (-1) else (if (decide (a0 > a)) then some 1 else some 0))))))
def lF (g : List kw) (f2 : (kw × kw) → Option Int) (a0 : List kw) : List kw → Nat → Option Int
 | [], _ => (if (decide ((a0.length : Int) < (g.length : Int))) then some (-1) else some 0)
 | h :: d, i75 => (if (decide ((i75 : Int) ≥ (g.length : Int))) then some 1 else ((mx g (i75 : Int)).bind fun c => ((f2 (h, c)).bind fun a => (if (a != 0) then some a else (lF g f2 a0 d (i75 + 1))))))
def nj (a0 a : List kw) (f2 : (kw × kw) → Option Int) : Option Int :=
 lF a f2 a0 a0 0
def oS (a0 a : List kw) : Option Int :=
 ((uY (a0.length : Int) (a.length : Int)).bind fun c => ((nj a0 a (fun (x : (kw × kw)) => nw x.1 x.2)).bind fun d => ((se ([c, d])).bind fun g => some g)))
def pU (j : List kw) : List Int → (List (List kw)) → Option ((List (List kw)) × Int)
 | [], a => (if (decide ((a.length : Int) > 128)) then some ([], 12) else ((EC (fun (x : ((List kw) × (List kw))) => oS x.1 x.2) a).bind fun h => some (h, 0)))
 | i :: c, a => ((rz j i).bind fun g => ((mJ 24 a ([g])).bind fun d => (pU j c d)))
def sw (a0 : Formula) : Option ((List (List kw)) × Int) :=
 ((qO a0).bind fun d => (if (!d) then some ([], 11) else ((uH a0).bind fun c => (if (decide ((c.length : Int) > 12)) then some ([], 12) else ((xu a0 c).bind fun a => pU c a ([]))))))
def ou (a0 : List kw) (f1 : kw → Option Bool) : Option Bool :=
 ((ph a0 f1).bind fun a => some (decide (a ≥ 0)))
def wR (a0 : kw) (a : kw → Option Bool) : Option Bool :=
 ((a a0).bind fun c => some (!c))
def uG (f1 : kw → Option Bool) : List (List kw) → Option ((List kw) × Bool)
 | [] => some ([], false)
 | c :: d => ((ou c (fun (x : kw) => wR x f1)).bind fun a => (if (!a) then some (c, true) else (uG f1 d)))
def yN (a0 : Formula) (f1 : kw → Option Bool) : Option ((List kw) × Bool) :=
 ((sw a0).bind fun a => ((if (a.2 != 0) then some true else some false).bind fun c => (if c then some ([], false) else uG f1 a.1)))
structure kZ where
 b : List Int
 mS : Bool
def vW (a c : List Int) : Option (Bool × (List Int)) :=
 ((mJ 1 a c).bind fun d => some (true, d))
def vi (c : List Int) (a : Bool) : Option Bool :=
 some a
def mX (a0 : kZ) (a : Int) : Option (Int ⊕ Unit) :=
 ((if (!a0.mS) then some (a != 0) else some false).bind fun x2 => (if x2 then some (Sum.inl a) else some (Sum.inr ())))
def vr (a0 : kZ) (q : Int) : Option (Int ⊕ (Int × kZ)) :=
 (((if (q == 9) then ((mX a0 11).bind fun m => match m with | .inl h => some (Sum.inl (Sum.inl h)) | .inr v => some (Sum.inr ())) else some (Sum.inr ())) : Option ((Int ⊕ (Int × kZ)) ⊕ Unit)).bind fun s => match s with | .inl i => some i | .inr _ => (((if ((a0.b.length : Int) == 0) then ((mX a0 10).bind fun k => match k with | .inl d => some (Sum.inl (Sum.inl d)) | .inr u => some (Sum.inr ())) else some (Sum.inr ())) : Option ((Int ⊕ (Int × kZ)) ⊕ Unit)).bind fun s => match s with | .inl g => some g | .inr _ => ((mx a0.b 0).bind fun o => ((nG (decide (0 ≤ 1) && decide (1 ≤ (a0.b.length : Int)))).bind fun _ => ((((if (o == 0) then some (decide (q > 0)) else some false).bind fun n => (if n then ((mX (⟨(a0.b.drop (Int.toNat 1)), a0.mS⟩ : kZ) 11).bind fun j => match j with | .inl a => some (Sum.inl (Sum.inl a)) | .inr t => some (Sum.inr ())) else some (Sum.inr ()))) : Option ((Int ⊕ (Int × kZ)) ⊕ Unit)).bind fun s => match s with | .inl c => some c | .inr _ => some (Sum.inr (o, (⟨(a0.b.drop (Int.toNat 1)), a0.mS⟩ : kZ))))))))
def nO (o : Int) : Nat → Int → Int → (List Int) → Bool → Option (Int ⊕ (Int × kZ))
 | 0, _, _, _, _ => none
 | n161 + 1, d, c, g, n => ((vr (⟨g, n⟩ : kZ) c).bind fun m => match m with | .inl h => some (Sum.inl h) | .inr a => ((nG (decide (0 ≤ (wi0 .i64 (7 * c))))).bind fun _ => (if (decide (a.1 < 128)) then (((if (decide ((wi0 .i64 (BitVec.ofInt (IntKind.bits .i64) d ||| BitVec.ofInt (IntKind.bits .i64) (wi0 .i64 ((wi0 .i64 (IntKind.u8.wrap (BitVec.ofInt (IntKind.bits .u8) a.1 &&& BitVec.ofInt (IntKind.bits .u8) 127).toNat)) * 2 ^ min (Int.toNat (wi0 .i64 (7 * c))) (IntKind.bits .i64)))).toNat) > o)) then ((mX a.2 12).bind fun k => match k with | .inl i => some (Sum.inl (Sum.inl i)) | .inr q => some (Sum.inr ())) else some (Sum.inr ())) : Option ((Int ⊕ (Int × kZ)) ⊕ Unit)).bind fun s => match s with | .inl j => some j | .inr _ => some (Sum.inr ((wi0 .i64 (BitVec.ofInt (IntKind.bits .i64) d ||| BitVec.ofInt (IntKind.bits .i64) (wi0 .i64 ((wi0 .i64 (IntKind.u8.wrap (BitVec.ofInt (IntKind.bits .u8) a.1 &&& BitVec.ofInt (IntKind.bits .u8) 127).toNat)) * 2 ^ min (Int.toNat (wi0 .i64 (7 * c))) (IntKind.bits .i64)))).toNat), a.2))) else (nO o n161 (wi0 .i64 (BitVec.ofInt (IntKind.bits .i64) d ||| BitVec.ofInt (IntKind.bits .i64) (wi0 .i64 ((wi0 .i64 (IntKind.u8.wrap (BitVec.ofInt (IntKind.bits .u8) a.1 &&& BitVec.ofInt (IntKind.bits .u8) 127).toNat)) * 2 ^ min (Int.toNat (wi0 .i64 (7 * c))) (IntKind.bits .i64)))).toNat) (wi0 .i64 (c + 1)) ((a.2).b) ((a.2).mS)))))
def ns (a0 : kZ) (a : Int) : Option (Int ⊕ (Int × kZ)) :=
 ((vi a0.b a0.mS).bind fun c => (if c then some (Sum.inr (0, a0)) else nO a lC 0 0 a0.b a0.mS))
def vq (a0 : kZ) (o : Int) : Option (Int ⊕ ((List Int) × kZ)) :=
 ((vi a0.b a0.mS).bind fun q => (if q then some (Sum.inr ([], a0)) else ((ns a0 9223372036854775807).bind fun j => match j with | .inl k => some (Sum.inl k) | .inr a => (((if (decide (a.1 > o)) then ((mX a.2 12).bind fun h => match h with | .inl c => some (Sum.inl (Sum.inl c)) | .inr t => some (Sum.inr ())) else (if (decide (a.1 > (((a.2).b).length : Int))) then ((mX a.2 10).bind fun i => match i with | .inl d => some (Sum.inl (Sum.inl d)) | .inr n => some (Sum.inr ())) else some (Sum.inr ()))) : Option ((Int ⊕ ((List Int) × kZ)) ⊕ Unit)).bind fun s => match s with | .inl g => some g | .inr _ => ((nG (decide (0 ≤ a.1) && decide (a.1 ≤ (((a.2).b).length : Int)))).bind fun _ => ((pG (((a.2).b).take (Int.toNat a.1))).bind fun m => ((nG (decide (0 ≤ a.1) && decide (a.1 ≤ (((a.2).b).length : Int)))).bind fun _ => some (Sum.inr (m, (⟨(((a.2).b).drop (Int.toNat a.1)), (a.2).mS⟩ : kZ))))))))))
def uk (a0 : kZ) : Option (Int ⊕ (ByteArray × kZ)) :=
 ((vq a0 16).bind fun i => match i with | .inl c => some (Sum.inl c) | .inr a => ((qi (Ch a.1)).bind fun g => (if (!g) then ((mX a.2 30).bind fun h => match h with | .inl d => some (Sum.inl d) | .inr j => some (Sum.inr (zS, a.2))) else some (Sum.inr ((Ch a.1), a.2)))))
def sv (a0 : kZ) : Option (Int ⊕ (kw × kZ)) :=
 ((uk a0).bind fun h => match h with | .inl c => some (Sum.inl c) | .inr i => ((uk i.2).bind fun g => match g with | .inl d => some (Sum.inl d) | .inr a => some (Sum.inr ((⟨i.1, a.1⟩ : kw), a.2))))
def Bh (a0 : kZ) : Option (Int ⊕ (ky × kZ)) :=
 ((ns a0 9223372036854775807).bind fun U => match U with | .inl Y => some (Sum.inl Y) | .inr c => ((((if (decide (c.1 < 1)) then some true else some (decide (c.1 > 4))).bind fun W => (if W then ((mX c.2 11).bind fun T => match T with | .inl A => some (Sum.inl (Sum.inl A)) | .inr a6 => some (Sum.inr ())) else some (Sum.inr ()))) : Option ((Int ⊕ (ky × kZ)) ⊕ Unit)).bind fun s => match s with | .inl D => some D | .inr _ => ((sv c.2).bind fun R => match R with | .inl Z => some (Sum.inl Z) | .inr a => (((if (c.1 == 1) then ((uk a.2).bind fun J => match J with | .inl t => some (Sum.inl (Sum.inl t)) | .inr g => some (Sum.inr ((⟨c.1, a.1, g.1, (⟨zS, zS⟩ : kw), (⟨zS, zS⟩ : kw), zS⟩ : ky), ((g.2).b), ((g.2).mS)))) else (if (c.1 == 2) then ((sv a.2).bind fun L => match L with | .inl u => some (Sum.inl (Sum.inl u)) | .inr h => some (Sum.inr ((⟨c.1, a.1, zS, h.1, (⟨zS, zS⟩ : kw), zS⟩ : ky), ((h.2).b), ((h.2).mS)))) else (if (c.1 == 3) then ((sv a.2).bind fun O => match O with | .inl v => some (Sum.inl (Sum.inl v)) | .inr m => ((uk m.2).bind fun M => match M with | .inl w => some (Sum.inl (Sum.inl w)) | .inr i => some (Sum.inr ((⟨c.1, a.1, zS, m.1, (⟨zS, zS⟩ : kw), i.1⟩ : ky), ((i.2).b), ((i.2).mS))))) else (if (c.1 == 4) then ((sv a.2).bind fun Q => match Q with | .inl x => some (Sum.inl (Sum.inl x)) | .inr n => ((sv n.2).bind fun P => match P with | .inl y => some (Sum.inl (Sum.inl y)) | .inr j => some (Sum.inr ((⟨c.1, a.1, zS, n.1, j.1, zS⟩ : ky), ((j.2).b), ((j.2).mS))))) else some (Sum.inr ((⟨c.1, a.1, zS, (⟨zS, zS⟩ : kw), (⟨zS, zS⟩ : kw), zS⟩ : ky), ((a.2).b), ((a.2).mS))))))) : Option ((Int ⊕ (ky × kZ)) ⊕ (ky × (List Int) × Bool))).bind fun s => match s with | .inl z => some z | .inr (o, d, k) => ((pD o).bind fun G => (if (!G) then ((mX (⟨d, k⟩ : kZ) 11).bind fun I => match I with | .inl q => some (Sum.inl q) | .inr a1 => some (Sum.inr ((⟨0, (⟨zS, zS⟩ : kw), zS, (⟨zS, zS⟩ : kw), (⟨zS, zS⟩ : kw), zS⟩ : ky), (⟨d, k⟩ : kZ)))) else some (Sum.inr (o, (⟨d, k⟩ : kZ)))))))))
structure yR where
 S : tH
 F : Formula
 State : Int
 E : Int
 kE : Bool
structure lZ where
 State : Int
 oE : Int
 lP : List kw
 lX : List kV
def qK (a0 : tH) (a2 a3 : Int) (c : ((List kw) × Bool)) : List kw → (List kV) → Option lZ
 | [], a => some (⟨a2, a3, c.1, a⟩ : lZ)
 | i :: d, a => ((vM a0.lH (⟨i, a0.og⟩ : kB)).bind fun g => ((Ar ([a, g.1])).bind fun h => (qK a0 a2 a3 c d h)))
def oW (a0 : tH) (g : Formula) (a2 a3 : Int) (a4 : Bool) : Option lZ :=
 ((if (!a4) then some true else some (a2 != 1)).bind fun d => (if d then some (⟨a2, a3, [], []⟩ : lZ) else ((Eo a0).bind fun a => ((yN g (fun (x : kw) => yY x a.1 a.2.1 a.2.2.1 a.2.2.2.1 a.2.2.2.2.1 a.2.2.2.2.2.1 a.2.2.2.2.2.2.1 a0.lR.nr a0.lR.oq a.2.2.2.2.2.2.2.1 a.2.2.2.2.2.2.2.2 a0.lH a0.Shown a0.mA a0.qz)).bind fun c => (if (!c.2) then some (⟨a2, a3, [], []⟩ : lZ) else qK a0 a2 a3 c c.1 ([]))))))
def wQ (a0 : kw) : Option Bool :=
 ((pA a0).bind fun a => some (!a))
def yv (a0 : lZ) : Option Bool :=
 ((if (decide (a0.State ≥ 0)) then some (decide (a0.State ≤ 3)) else some false).bind fun x8 => ((if x8 then some (decide (a0.oE ≥ 0)) else some false).bind fun c => ((if c then some (decide (a0.oE ≤ 99)) else some false).bind fun d => ((if d then some (decide ((a0.lP.length : Int) ≤ 64)) else some false).bind fun g => ((if g then ((ou a0.lP (fun (x : kw) => wQ x)).bind fun a => some (!a)) else some false).bind fun h => some h)))))
def pB (f1 : kV → Option Bool) : List kV → Nat → Option Int
 | [], _ => some (-1)
 | d :: a, i35 => ((f1 d).bind fun c => (if c then some (i35 : Int) else (pB f1 a (i35 + 1))))
def wj (a0 : List kV) (f1 : kV → Option Bool) : Option Int :=
 pB f1 a0 0
def rr (a0 : List kV) (f1 : kV → Option Bool) : Option Bool :=
 ((wj a0 f1).bind fun a => some (decide (a ≥ 0)))
def z7 (a0 : kV) : Option Bool :=
 ((pD a0.ky).bind fun d => ((if d then some (kN a0.kB.kw a0.ky.Head) else some false).bind fun x7 => ((if x7 then ((qi a0.kB.lx).bind fun a => some a) else some false).bind fun c => some c)))
def zy (a0 : kV) : Option Bool :=
 ((z7 a0).bind fun a => some (!a))
def tl  : List kV → (List Int) → Option (Bool × (List Int))
 | [], a => some (true, a)
 | c :: d, a => ((vT c.ky).bind fun g => ((vW a g).bind fun h => ((rj h.2 c.kB.lx).bind fun i => (tl d i.2))))
def Aj (a : List Int) (d : List kV) : Option (Bool × (List Int)) :=
 ((if (decide ((d.length : Int) > 256)) then some true else ((rr d (fun (x : kV) => zy x)).bind fun c => some c)).bind fun x5 => (if x5 then some (false, a) else ((mV a (d.length : Int)).bind fun g => tl d g.2)))
def rS (g : List Int) : List kw → (List Int) → Option (Bool × (List Int))
 | [], a => ((qk g).bind fun i => ((vW a i).bind fun c => some (c.1, c.2)))
 | j :: d, a => ((oU a j).bind fun h => (rS g d h.2))
def wJ (a : List Int) (d : lZ) : Option (Bool × (List Int)) :=
 ((yv d).bind fun m => (((if (!m) then some (true, ([])) else ((Aj ([]) d.lX).bind fun c => some ((!c.1), c.2))) : Option (Bool × (List Int))).bind fun (k, g) => (if k then some (false, a) else ((mV a d.State).bind fun h => ((mV h.2 d.oE).bind fun i => ((mV i.2 (d.lP.length : Int)).bind fun j => rS g d.lP j.2))))))
def rH (s : (Int × kZ)) : Nat → (List kV) → Int → (List Int) → Bool → Option (Int ⊕ ((List kV) × kZ))
 | 0, _, _, _, _ => none
 | k + 1, d, h, g, i => (if (decide (h < s.1)) then ((Bh (⟨g, i⟩ : kZ)).bind fun q => match q with | .inl m => some (Sum.inl m) | .inr a => ((uk a.2).bind fun o => match o with | .inl n => some (Sum.inl n) | .inr c => ((mJ 184 d ([(⟨a.1, (⟨a.1.Head, c.1⟩ : kB)⟩ : kV)])).bind fun j => (rH s k j (wi0 .i64 (h + 1)) ((c.2).b) ((c.2).mS))))) else some (Sum.inr (d, (⟨g, i⟩ : kZ))))
def As (a0 : kZ) (g : Int) : Option (Int ⊕ ((List kV) × kZ)) :=
 ((ns a0 g).bind fun a => match a with | .inl c => some (Sum.inl c) | .inr d => rH d lC ([]) 0 ((d.2).b) ((d.2).mS))
def qe (q u o : (Int × kZ)) : Nat → Int → (List kw) → (List Int) → Bool → Option (Int ⊕ (lZ × kZ))
 | 0, _, _, _, _ => none
 | k + 1, h, d, g, i => (if (decide (h < q.1)) then ((sv (⟨g, i⟩ : kZ)).bind fun s => match s with | .inl m => some (Sum.inl m) | .inr a => ((mJ 32 d ([a.1])).bind fun j => (qe q u o k (wi0 .i64 (h + 1)) j ((a.2).b) ((a.2).mS)))) else ((As (⟨g, i⟩ : kZ) 256).bind fun t => match t with | .inl n => some (Sum.inl n) | .inr c => some (Sum.inr ((⟨u.1, o.1, d, c.1⟩ : lZ), (⟨(c.2).b, (c.2).mS⟩ : kZ)))))
def wP (a0 : kZ) : Option (Int ⊕ (lZ × kZ)) :=
 ((ns a0 3).bind fun h => match h with | .inl i => some (Sum.inl i) | .inr m => ((ns m.2 99).bind fun g => match g with | .inl j => some (Sum.inl j) | .inr c => ((ns c.2 64).bind fun d => match d with | .inl k => some (Sum.inl k) | .inr a => qe a m c lC 0 ([]) ((a.2).b) ((a.2).mS))))
def Cd (a0 : kZ) (g : lZ) : Option (Int ⊕ (kZ × lZ)) :=
 ((wP a0).bind fun c => match c with | .inl a => some (Sum.inl a) | .inr d => some (Sum.inr (d.2, d.1)))
def wm (a0 : List Int) (a : lZ) : Option (Int × lZ) :=
 ((pG a0).bind fun l => ((Cd (⟨l, false⟩ : kZ) a).bind fun s => some ((Je (fun r => (r.1).b) s), (match s with | .inl _ => a | .inr r => r.2))))
def uh (a0 : lZ) (g : List ky) (a3 : ByteArray) : List kw → Option Int
 | [] => some 0
 | d :: c => ((xX a0.lX g (⟨d, a3⟩ : kB)).bind fun a => (if (a.2 != 0) then some a.2 else (uh a0 g a3 c)))
def oB (a0 : lZ) (d : List ky) (a2 : Formula) (a3 : ByteArray) : Option Int :=
 (if (a0.State != 1) then some 43 else ((oy a2 a0.lP).bind fun c => (if (!c) then some 44 else ((xX a0.lX d (⟨(⟨zS, zS⟩ : kw), zS⟩ : kB)).bind fun a => (if (a.2 == 50) then some a.2 else uh a0 d a3 a0.lP)))))
def rq (g : List kV) : List kV → Nat → Option Bool
 | [], _ => some true
 | d :: c, i90 => ((mx g (i90 : Int)).bind fun a => (if (!(Df d a)) then some false else (rq g c (i90 + 1))))
def vY (a0 a : List kV) : Option Bool :=
 (if ((a0.length : Int) != (a.length : Int)) then some false else rq a a0 0)
def xy (a0 a : lZ) : Option Bool :=
 ((if (a0.State == a.State) then some (a0.oE == a.oE) else some false).bind fun g => ((if g then ((vZ a0.lP a.lP).bind fun d => some d) else some false).bind fun h => ((if h then ((vY a0.lX a.lX).bind fun c => some c) else some false).bind fun i => some i)))
def z8  : Option Bool :=
 ((oW (⟨(⟨(⟨#[109, 101]⟩ : ByteArray), [], []⟩ : lR), (⟨#[121, 111, 117]⟩ : ByteArray), 3, [(⟨1, (⟨(⟨#[120]⟩ : ByteArray), (⟨#[121]⟩ : ByteArray)⟩ : kw), (⟨#[121, 111, 117]⟩ : ByteArray), (⟨zS, zS⟩ : kw), (⟨zS, zS⟩ : kw), zS⟩ : ky)], [], [], []⟩ : tH) (⟨1, 0, (⟨(⟨#[120]⟩ : ByteArray), (⟨#[121]⟩ : ByteArray)⟩ : kw), []⟩ : Formula) 1 0 true).bind fun a => ((oW (⟨(⟨(⟨#[109, 101]⟩ : ByteArray), [], []⟩ : lR), (⟨#[121, 111, 117]⟩ : ByteArray), 3, [(⟨1, (⟨(⟨#[120]⟩ : ByteArray), (⟨#[121]⟩ : ByteArray)⟩ : kw), (⟨#[121, 111, 117]⟩ : ByteArray), (⟨zS, zS⟩ : kw), (⟨zS, zS⟩ : kw), zS⟩ : ky)], [], [], []⟩ : tH) (⟨1, 0, (⟨(⟨#[120]⟩ : ByteArray), (⟨#[121]⟩ : ByteArray)⟩ : kw), []⟩ : Formula) 1 0 false).bind fun c => ((wJ ([]) a).bind fun k => ((qk k.2).bind fun y => ((wm y (⟨0, 0, [], []⟩ : lZ)).bind fun m => ((if ((((a).lP).length : Int) == 1) then some ((((a).lX).length : Int) == 1) else some false).bind fun n => ((if n then ((oB (⟨(a).State, (a).oE, (a).lP, (a).lX⟩ : lZ) ([(⟨1, (⟨(⟨#[120]⟩ : ByteArray), (⟨#[121]⟩ : ByteArray)⟩ : kw), (⟨#[121, 111, 117]⟩ : ByteArray), (⟨zS, zS⟩ : kw), (⟨zS, zS⟩ : kw), zS⟩ : ky)]) (⟨1, 0, (⟨(⟨#[120]⟩ : ByteArray), (⟨#[121]⟩ : ByteArray)⟩ : kw), []⟩ : Formula) (⟨#[121, 111, 117]⟩ : ByteArray)).bind fun j => some (j == 0)) else some false).bind fun o => ((if o then ((oB (⟨(a).State, (a).oE, (a).lP, (a).lX⟩ : lZ) ([]) (⟨1, 0, (⟨(⟨#[120]⟩ : ByteArray), (⟨#[121]⟩ : ByteArray)⟩ : kw), []⟩ : Formula) (⟨#[121, 111, 117]⟩ : ByteArray)).bind fun i => some (i == 50)) else some false).bind fun q => ((if q then some ((wi0 .i64 ((((c).lP).length : Int) + (((c).lX).length : Int))) == 0) else some false).bind fun s => ((if s then ((oB (⟨(c).State, (c).oE, (c).lP, (c).lX⟩ : lZ) ([(⟨1, (⟨(⟨#[120]⟩ : ByteArray), (⟨#[121]⟩ : ByteArray)⟩ : kw), (⟨#[121, 111, 117]⟩ : ByteArray), (⟨zS, zS⟩ : kw), (⟨zS, zS⟩ : kw), zS⟩ : ky)]) (⟨1, 0, (⟨(⟨#[120]⟩ : ByteArray), (⟨#[121]⟩ : ByteArray)⟩ : kw), []⟩ : Formula) (⟨#[121, 111, 117]⟩ : ByteArray)).bind fun h => some (h == 44)) else some false).bind fun t => ((if t then some k.1 else some false).bind fun u => ((if u then some (m.1 == 0) else some false).bind fun v => ((if v then ((xy m.2 (⟨(a).State, (a).oE, (a).lP, (a).lX⟩ : lZ)).bind fun g => some g) else some false).bind fun w => ((if w then ((oB (⟨0, 0, [], []⟩ : lZ) ([]) (⟨1, 0, (⟨(⟨#[120]⟩ : ByteArray), (⟨#[121]⟩ : ByteArray)⟩ : kw), []⟩ : Formula) (⟨#[121, 111, 117]⟩ : ByteArray)).bind fun d => some (d == 43)) else some false).bind fun x => some x))))))))))))))
def te (rec : Formula → Option (List kw)) : List Formula → (List kw) → Option (List kw)
 | [], a => some a
 | h :: c, a => ((rec h).bind fun g => ((mJ 32 a g).bind fun d => (te rec c d)))
def yM (rec : Formula → Option (List kw)) (a0 : Formula) : Option (List kw) :=
 (if (a0.Op == 1) then some [a0.kw] else te rec a0.Kids ([]))
def uV : Nat → Formula → Option (List kw)
 | 0 => fun _ => none
 | n + 1 => yM (uV n)
def yc (a0 : Formula) : Option (List kw) :=
 ((uV lC a0).bind fun c => ((ET c).bind fun a => some a))
def vh (g : List kw) : List kw → Option Bool
 | [] => some true
 | d :: a => ((zP g d).bind fun c => (if (!c) then some false else (vh g a)))
def xw (a0 a : List kw) : Option Bool :=
 vh a a0
def wO (i : List kw) : List kw → Nat → Option Bool
 | [], _ => some false
 | a :: c, i189 => ((mx i (i189 : Int)).bind fun g => (if (!(kN a g)) then ((mx i (i189 : Int)).bind fun h => ((qZ a h).bind fun d => some d)) else (wO i c (i189 + 1))))
def AV (a0 a : List kw) : Option Bool :=
 (if ((a0.length : Int) != (a.length : Int)) then some (decide ((a0.length : Int) < (a.length : Int))) else wO a a0 0)
def qJ (c : List (List kw)) (d : List kw) : Nat → Int → Option Int
 | 0, _ => none
 | g + 1, a => ((if (decide (a > 0)) then ((mx c (wi0 .i64 (a - 1))).bind fun j => ((AV d j).bind fun h => some h)) else some false).bind fun i => (if i then (qJ c d g (wi0 .i64 (a - 1))) else some a))
def sK  : List (List kw) → (List (List kw)) → Option (List (List kw))
 | [], a => some a
 | d :: g, a => ((qJ a d lC (a.length : Int)).bind fun c => ((nG (decide (0 ≤ c) && decide (c ≤ (a.length : Int)))).bind fun _ => ((mJ 24 ([]) (a.take (Int.toNat c))).bind fun h => ((mJ 24 h ([d])).bind fun i => ((nG (decide (0 ≤ c) && decide (c ≤ (a.length : Int)))).bind fun _ => ((mJ 24 i (a.drop (Int.toNat c))).bind fun j => (sK g j)))))))
def zg (a0 : List (List kw)) : Option (List (List kw)) :=
 sK a0 ([])
def rB (a : List kw) : List kw → (List (List kw)) → Option (List (List kw))
 | [], c => some c
 | g :: d, c => ((if ((a.length : Int) == 0) then some true else ((mx a (wi0 .i64 ((a.length : Int) - 1))).bind fun q => ((qZ q g).bind fun n => some n))).bind fun o => (if o then ((((mJ 32 ([]) a).bind fun m => some (m, ([g]))) : Option ((List kw) × (List kw))).bind fun (h, i) => ((mJ 32 h i).bind fun j => ((mJ 24 c ([j])).bind fun k => (rB a d k)))) else (rB a d c)))
def tO (c : List kw) : List (List kw) → Bool → Option Bool
 | [], a => some a
 | h :: d, a => ((if a then some true else ((xw h c).bind fun g => some g)).bind fun i => (tO c d i))
def qb (a0 : Formula) (m : List kw) : List (List kw) → (List (List kw)) → (List (List kw)) → Option ((List (List kw)) × (List (List kw)))
 | [], a, c => some (a, c)
 | d :: g, a, c => ((tO d a false).bind fun k => (if k then (qb a0 m g a c) else ((sd lC a0 d).bind fun j => (if j then ((mJ 24 a ([d])).bind fun h => (qb a0 m g h c)) else ((rB d m c).bind fun i => (qb a0 m g a i))))))
def tj (a0 : Formula) (j : List kw) : Nat → (List (List kw)) → (List (List kw)) → Option (List (List kw))
 | 0, _, _ => none
 | h + 1, a, c => (if (decide ((a.length : Int) > 0)) then ((qb a0 j a c ([])).bind fun (d, g) => (tj a0 j h g d)) else ((zg c).bind fun i => some i))
def Al (a0 : Formula) : Option (List (List kw)) :=
 ((yc a0).bind fun a => tj a0 a lC ([[]]) ([]))
def rE (c : List kw) : List (List kw) → Option ((List kw) × Bool)
 | [] => some ([], false)
 | d :: g => ((xw d c).bind fun a => (if a then some (d, true) else (rE c g)))
def ye (a0 : tH) (d : Formula) : Option ((List kw) × Bool) :=
 ((Af a0).bind fun a => ((Al d).bind fun c => rE a c))
def vL (a0 : lZ) (a3 : ByteArray) : List kw → Option Int
 | [] => some 0
 | g :: a => ((wA a0.lX).bind fun c => ((tW c g a3).bind fun d => (if (!d) then some 42 else (vL a0 a3 a))))
def Ad (a0 : lZ) (h : List ky) (a2 : Formula) (a3 : ByteArray) : Option Int :=
 (if (a0.State != 1) then some 43 else ((xU a2).bind fun c => ((if (!c) then some true else ((sd lC a2 a0.lP).bind fun a => some (!a))).bind fun g => (if g then some 44 else ((Cp a0.lX h (⟨(⟨zS, zS⟩ : kw), zS⟩ : kB)).bind fun d => (if (d.2 == 50) then some 50 else vL a0 a3 a0.lP))))))
def sE (a0 : yR) : Option Bool :=
 (z8.bind fun q => (if (!q) then some false else ((Ak a0.S).bind fun s => ((if (decide (s > 4000)) then some true else ((nU lC ([a0.F])).bind fun k => some (decide (k > 150)))).bind fun t => (if t then some true else ((oW a0.S a0.F a0.State a0.E a0.kE).bind fun a => ((if (((a).State) != a0.State) then some true else some (((a).oE) != a0.E)).bind fun u => ((if u then some true else ((xy a a).bind fun j => some (!j))).bind fun v => (if v then some false else ((if (!a0.kE) then some true else some (a0.State != 1)).bind fun m => ((if m then some true else ((xU a0.F).bind fun i => some (!i))).bind fun n => (if n then some ((wi0 .i64 ((((a).lP).length : Int) + (((a).lX).length : Int))) == 0) else ((yc a0.F).bind fun d => (if (decide ((d.length : Int) > 8)) then some true else ((ye a0.S a0.F).bind fun c => (if (!c.2) then some ((wi0 .i64 ((((a).lP).length : Int) + (((a).lX).length : Int))) == 0) else ((yV ((a).lP) c.1).bind fun g => ((if g then ((Ad a a0.S.lH a0.F a0.S.og).bind fun h => some (h == 0)) else some false).bind fun o => some o))))))))))))))))))
def Hz (a0 a : lZ) : Option Bool :=
 ((if (a0.State == a.State) then some (a0.oE == a.oE) else some false).bind fun g => ((if g then ((yV a0.lP a.lP).bind fun d => some d) else some false).bind fun h => ((if h then ((Dv a0.lX a.lX).bind fun c => some c) else some false).bind fun i => some i)))
def yH (a0 : kZ) (g : lZ) : Option (Int ⊕ (kZ × lZ)) :=
 ((wP a0).bind fun c => match c with | .inl a => some (Sum.inl a) | .inr d => some (Sum.inr (d.2, d.1)))
def xf (a0 : List Int) (a : lZ) : Option (Int × lZ) :=
 ((pG a0).bind fun l => ((yH (⟨l, false⟩ : kZ) a).bind fun s => some ((Je (fun r => (r.1).b) s), (match s with | .inl _ => a | .inr r => r.2))))
end
end Go.Proofs.YtbnbdigcbldfhaaGreat
