/- a part of a proof of OutcomeChecks -/
import Derived.Test.YtbnbdigcbldfhaaGreatRtSd
import Derived.Laws.IdiomStrings
import Derived.Laws.MakeOwn
import Derived.Recover
import Derived.LaidEqlPtr
import Derived.Shelf.SlSortCmp.NoneTotal
import Derived.Shelf.SortM.Plain
import Derived.Shelf.SortM.SortNone
import Derived.Shelf.SlIter.Sorted
import Derived.Shelf.SlIter.Nil
import Derived.Test.YtbnbdigcbldfhaaGreatProg
import Derived.KernelRfl
set_option linter.all false
namespace Go.Proofs.YtbnbdigcbldfhaaGreat
open Go.IntKind renaming wrap → wi0
open Go.RowKit
section
variable {α β γ : Type}
inductive ox (Q : α → β → Prop) : List α → List β → Prop
 | nil : ox Q [] []
 | cons {a : α} {b : β} {l : List α} {m : List β} : Q a b → ox Q l m → ox Q (a :: l) (b :: m)
namespace ox
variable {Q Q' : α → β → Prop}
theorem length {l : List α} {m : List β} (h : ox Q l m) : l.length = m.length := by
 induction h with
 | nil => rfl
 | cons _ _ ih => simp [ih]
theorem imp {l : List α} {m : List β} (h : ox Q l m) (c : ∀ a b, Q a b → Q' a b) : ox Q' l m := by
 induction h with
 | nil => exact .nil
 | cons h1 _ ih => exact .cons (c _ _ h1) ih
theorem get {l : List α} {m : List β} (h : ox Q l m) : ∀ {i : Nat} {b : β}, m[i]? = some b → ∃ a, l[i]? = some a ∧ Q a b := by
 induction h with
 | nil => intro i b c; simp at c
 | cons h1 _ ih =>
  intro i b c
  cases i with
  | zero => simp at c; subst c; exact ⟨_, rfl, h1⟩
  | succ i => simpa using ih (by simpa using c)
theorem append {l a : List α} {m c : List β} (h : ox Q l m) (d : ox Q a c) : ox Q (l ++ a) (m ++ c) := by
 induction h with
 | nil => exact d
 | cons h1 _ ih => exact .cons h1 ih
theorem set {l : List α} {m : List β} (h : ox Q l m) {a : α} {b : β} (d : Q a b) : ∀ i : Nat, ox Q (l.set i a) (m.set i b) := by
 induction h with
 | nil => intro i; exact .nil
 | cons h1 c ih =>
  intro i
  cases i with
  | zero => exact .cons d c
  | succ i => exact .cons h1 (ih i)
theorem take {l : List α} {m : List β} (h : ox Q l m) : ∀ i : Nat, ox Q (l.take i) (m.take i) := by
 induction h with
 | nil => intro i; simp; exact .nil
 | cons h1 _ ih =>
  intro i
  cases i with
  | zero => exact .nil
  | succ i => exact .cons h1 (ih i)
theorem drop {l : List α} {m : List β} (h : ox Q l m) : ∀ i : Nat, ox Q (l.drop i) (m.drop i) := by
 induction h with
 | nil => intro i; simp; exact .nil
 | cons h1 a ih =>
  intro i
  cases i with
  | zero => exact .cons h1 a
  | succ i => exact ih i
end ox
theorem Bu {P : Nat → β → α → Prop} : ∀ {m : List β} (o : Nat), (∀ (i : Nat) (b : β), m[i]? = some b → ∃ a, P (o + i) b a) → ∃ l : List α, l.length = m.length ∧ ∀ (i : Nat) (b : β), m[i]? = some b → ∃ a, l[i]? = some a ∧ P (o + i) b a
 | [], _, _ => ⟨[], rfl, fun i b h => by simp at h⟩
 | b :: m, o, h => by
  obtain ⟨a, d⟩ := h 0 b rfl
  obtain ⟨l, h1, j⟩ := Bu (m := m) (o + 1) (fun i b k => by
   obtain ⟨a, d⟩ := h (i + 1) b (by simpa using k)
   exact ⟨a, by rw [show o + 1 + i = o + (i + 1) by omega]; exact d⟩)
  refine ⟨a :: l, by simp [h1], fun i c g => ?_⟩
  cases i with
  | zero => simp at g; subst g; exact ⟨a, rfl, d⟩
  | succ i =>
   obtain ⟨x, n, hp⟩ := j i c (by simpa using g)
   exact ⟨x, by simpa using n, by rw [show o + (i + 1) = o + 1 + i by omega]; exact hp⟩
theorem ox.NJ {Q : α → β → Prop} : ∀ {l : List α} {m : List β}, l.length = m.length → (∀ (i : Nat) (a : α) (b : β), l[i]? = some a → m[i]? = some b → Q a b) → ox Q l m
 | [], [], _, _ => .nil
 | [], _ :: _, h, _ => by cases h
 | _ :: _, [], h, _ => by cases h
 | a :: l, b :: m, h, c => .cons (c 0 a b rfl rfl) (ox.NJ (by simpa using h) (fun i x y d g => c (i + 1) x y (by simpa using d) (by simpa using g)))
end
structure Deep {β : Type} (R : py β) (k : Nat) : Prop where
 mono : FJ R
 len : ∀ {μ ys x}, R μ ys x → ys.length = k
 one : ∀ {μ ys x}, R μ ys x → ∀ u ∈ ys, u.oneCell' = true
abbrev qM (k : Nat) := {ys : List Value // ys.length = k ∧ ∀ u ∈ ys, u.oneCell' = true}
def tH {k : Nat} (c : qM k) : List Value := c.1
theorem Dm {k : Nat} (x : qM k) : (tH x).length = k := x.2.1
theorem SU {k : Nat} (x : qM k) : ∀ u ∈ tH x, u.oneCell' = true := x.2.2
theorem Sl.AU {α : Type} {R : py α} {k : Nat} {μ : jw} {v : Value} {l : List α} (h : Sl R k μ v l) : v.oneCell' = true := by
 obtain ⟨A, c, rfl, _⟩ := h; rfl
section
variable {β : Type} {Rl : py β} {k : Nat} {μ μ' : jw} {v : Value} {l : List β}
def Deep.cell (a : Deep Rl k) {ys : List Value} {x : β} (h : Rl μ ys x) : qM k := ⟨ys, a.len h, a.one h⟩
theorem Sl.raw (z : Deep Rl k) (h : Sl Rl k μ v l) : ∃ cl : List (qM k), Sl (Pl tH) k μ v cl ∧ ox (fun c x => Rl μ c.1 x) cl l := by
 obtain ⟨A, c, rfl, h1, s, u⟩ := h
 cases l with
 | nil => exact ⟨[], ⟨A, c, rfl, h1, s, fun h => absurd h (by simp)⟩, .nil⟩
 | cons x0 l =>
  obtain ⟨b, off, cs, T, fr, rfl, D, w⟩ := u (by simp)
  obtain ⟨cl, o, q⟩ := Bu (P := fun i x (c : qM k) => Rl μ c.1 x ∧ ∀ j y, c.1[j]? = some y → cs[off + i * k + j]? = some y) (m := x0 :: l) 0 (fun i x p => by
   obtain ⟨ys, _, d, g⟩ := w i x p
   exact ⟨z.cell d, d, by rw [cd]; exact g⟩)
  refine ⟨cl, ⟨_, c, by rw [o], by omega, s, fun _ => ⟨b, off, cs, T, fr, rfl, D, fun i c n => ?_⟩⟩, ox.NJ o (fun i c x n p => ?_)⟩
  ·have E : i < (x0 :: l).length := by rw [← o]; exact (aF.1 n).1
   obtain ⟨t, a, _, g⟩ := q i _ (bq E)
   rw [n] at a; cases a
   exact ⟨c.1, c.2.1, rfl, by rw [cd] at g; exact g⟩
  ·obtain ⟨t, a, d, _⟩ := q i x p
   rw [n] at a; cases a
   exact d
theorem Sl.MU {cl : List (qM k)} (h : Sl (Pl tH) k μ v cl) (u : js μ μ') (a : ox (fun c x => Rl μ' c.1 x) cl l) : Sl Rl k μ' v l := by
 obtain ⟨A, c, rfl, h1, n, o⟩ := h
 have d := a.length
 refine ⟨A, c, by rw [d], by omega, n, fun y => ?_⟩
 obtain ⟨b, off, cs, T, fr, rfl, q, p⟩ := o (by omega)
 refine ⟨b, off, cs, T, fr, rfl, u _ _ q, fun i x w => ?_⟩
 obtain ⟨c, s, t⟩ := a.get w
 obtain ⟨ys, g, j, m⟩ := p i c s
 cases j
 exact ⟨tH c, g, t, m⟩
def KW (Rl : py β) (k : Nat) (μ : jw) (W : World) (v : Value) (l : List β) : Prop := ∃ cl : List (qM k), Sl (Pl tH) k (hp W) v cl ∧ ox (fun c x => Rl μ c.1 x) cl l
theorem KW.sl (c : Deep Rl k) {W : World} (h : Sl Rl k μ v l) (d : js μ (hp W)) : KW Rl k μ W v l := by
 obtain ⟨cl, h1, a⟩ := h.raw c
 exact ⟨cl, h1.mono (Pl.mono _) d, a⟩
theorem Sl.Oh {b m : Nat} {cl : List (qM k)} {cs : Array Value} {e : TypeId} (hm : cl.length = m) (a : m ≤ maxLen) (d : cs.toList = (cl.map tH).flatten) (c : μ b = some (.cells cs e (0, 0))) : Sl (Pl tH) k μ (.slice (some ⟨b, 0, none⟩) m m) cl := by
 subst hm
 refine ⟨_, _, rfl, aJ _, a, fun _ => ⟨b, 0, _, _, _, rfl, c, fun i x g => ⟨tH x, Dm x, rfl, fun j y h => ?_⟩⟩⟩
 have := vH Dm cl i x g j y h
 rw [← d] at this
 simpa using this
inductive Cd (Rl : py β) (k : Nat) (μ : jw) : List Value → List β → Prop
 | nil : Cd Rl k μ [] []
 | cons {ys zs : List Value} {x : β} {l : List β} : Rl μ ys x → Cd Rl k μ zs l → Cd Rl k μ (ys ++ zs) (x :: l)
theorem Cd.cells (d : Deep Rl k) {ys : List Value} (h : Cd Rl k μ ys l) : ∃ cl : List (qM k), (cl.map tH).flatten = ys ∧ ox (fun c x => Rl μ c.1 x) cl l := by
 induction h with
 | nil => exact ⟨[], rfl, .nil⟩
 | cons h1 _ ih =>
  obtain ⟨cl, e, a⟩ := ih
  exact ⟨d.cell h1 :: cl, by rw [aO, cA, e]; rfl, .cons h1 a⟩
theorem KW.lit (d : Deep Rl k) {W : World} {b m : Nat} {ys : List Value} {e : TypeId} (h : Cd Rl k μ ys l) (hm : l.length = m) (g : m ≤ maxLen) (i : W.heap[b]? = some (.cells ys.toArray e (0, 0))) : KW Rl k μ W (.slice (some ⟨b, 0, none⟩) m m) l := by
 obtain ⟨cl, c, a⟩ := h.cells d
 exact ⟨cl, Sl.Oh (by rw [a.length]; exact hm) g c.symm i, a⟩
theorem Sl.imp {R R' : py β} (h : Sl R k μ v l) (p : ∀ ys x, R μ ys x → R' μ ys x) : Sl R' k μ v l := by
 obtain ⟨A, c, rfl, h1, a, d⟩ := h
 refine ⟨A, c, rfl, h1, a, fun q => ?_⟩
 obtain ⟨b, off, cs, T, fr, rfl, o, g⟩ := d q
 exact ⟨b, off, cs, T, fr, rfl, o, fun i x s => let ⟨ys, j, m, n⟩ := g i x s; ⟨ys, j, p _ _ m, n⟩⟩
theorem D7 : ∀ (l : List Nat) (n : Nat), n ∈ l → n ≤ l.foldr max 0
 | [], n, h => by cases h
 | a :: l, n, h => by
  rcases ay.1 h with rfl | h
  ·exact Nat.le_max_left _ _
  ·exact cn (D7 l n h) (Nat.le_max_right _ _)
theorem Sl.Sp {R : py β} {a : Nat → py β} (h : Sl R k μ v l) (D : ∀ ys x, R μ ys x → ∃ n, a n μ ys x) (up : ∀ n m ys x, n ≤ m → a n μ ys x → a m μ ys x) : ∃ n, Sl (a n) k μ v l := by
 obtain ⟨A, c, rfl, h1, s, w⟩ := h
 by_cases t : 0 < l.length
 ·obtain ⟨b, off, cs, T, fr, rfl, E, z⟩ := w t
  obtain ⟨I, J, u⟩ := Bu (P := fun i x (p : Nat × List Value) => p.2.length = k ∧ a p.1 μ p.2 x ∧ ∀ j y, p.2[j]? = some y → cs[off + i * k + j]? = some y) (m := l) 0 (fun i x q => by
   obtain ⟨ys, g, o, d⟩ := z i x q
   obtain ⟨n, G⟩ := D _ _ o
   exact ⟨(n, ys), g, G, by rw [cd]; exact d⟩)
  refine ⟨(I.map (·.1)).foldr max 0, _, c, rfl, h1, s, fun _ => ⟨b, off, cs, T, fr, rfl, E, fun i x q => ?_⟩⟩
  obtain ⟨p, hp, g, o, d⟩ := u i x q
  exact ⟨p.2, g, up _ _ _ _ (D7 _ _ (aQ.2 ⟨p, List.mem_of_getElem? hp, rfl⟩)) o, by rw [cd] at d; exact d⟩
 ·exact ⟨0, A, c, rfl, h1, s, fun h => absurd h t⟩
theorem I3 {α : Type} {enc : α → List Value} {k : Nat} : Deep (yL enc k) 1 where
 mono := yL.mono _ _
 len := by rintro _ _ _ ⟨v, rfl, h⟩; rfl
 one := by rintro _ _ _ ⟨v, rfl, h⟩ u hu; rw [aC] at hu; subst hu; exact h.AU
def nu (e : TypeId) (Rl : py β) (k : Nat) (μ : jw) (v : Value) (l : List β) (B : List (Nat × Obj)) : Prop := ∃ cl : List (qM k), jl e tH k v cl B ∧ ox (fun c x => Rl μ c.1 x) cl l
variable {e : TypeId} {B : List (Nat × Obj)}
theorem nu.mono (c : Deep Rl k) (h : nu e Rl k μ v l B) (d : js μ μ') : nu e Rl k μ' v l B := by
 obtain ⟨cl, h1, a⟩ := h
 exact ⟨cl, h1, a.imp (fun _ _ h => c.mono _ _ _ _ d h)⟩
theorem nu.nil (e : TypeId) (Rl : py β) (k : Nat) (μ : jw) : nu e Rl k μ (.slice none 0 0) [] [] := ⟨[], jl.nil _ _ _, .nil⟩
theorem nu.lit (d : Deep Rl k) {b m : Nat} {ys : List Value} (h : Cd Rl k μ ys l) (hm : l.length = m) (g : m ≤ maxLen) (i : ys.length = m * k) : nu e Rl k μ (.slice (some ⟨b, 0, none⟩) m m) l [(b, .cells ys.toArray e (0, 0))] := by
 obtain ⟨cl, c, a⟩ := h.cells d
 exact ⟨cl, jl.lit (by rw [a.length]; exact hm) g c.symm (by simpa using i), a⟩
theorem nu.form (h : nu e Rl k μ v l B) : ∃ A c, v = .slice A l.length c := by
 obtain ⟨cl, h1, a⟩ := h
 rw [← a.length]; exact h1.form
theorem nu.len (h : nu e Rl k μ v l B) : l.length ≤ 9223372036854775807 := by
 obtain ⟨cl, h1, a⟩ := h
 rw [← a.length]; exact h1.len
theorem nu.nd (h : nu e Rl k μ v l B) : (B.map (·.1)).Nodup := let ⟨_, h1, _⟩ := h; h1.nd
theorem nu.isNil {n c : Nat} (h : nu e Rl k μ (.slice none n c) l B) : l = [] := by
 obtain ⟨cl, h1, a⟩ := h
 have := a.length
 rw [h1.isNil] at this
 exact aX this.symm
theorem nu.sl (h : nu e Rl k μ v l B) (c : Deep Rl k) (d : js μ μ') (hm : ∀ b o, (b, o) ∈ B → μ' b = some o) : Sl Rl k μ' v l := by
 obtain ⟨cl, h1, a⟩ := h
 exact Sl.MU (h1.sl Dm hm) (js.refl _) (a.imp (fun _ _ h => c.mono _ _ _ _ d h))
end
section
variable {β : Type} {Rl : py β} {k : Nat} {μ : jw} {v : Value} {l : List β} {e : TypeId} {B : List (Nat × Obj)}
variable {dd : Bool} {F : Nat → Prop} {w W : World} {L : List (Nat × Obj)}
theorem nu.SD (h : nu e Rl k μ v l B) (c : Deep Rl k) (a : ST dd F w W μ L) (d : ∀ p, p ∈ B → p ∈ L) : Sl Rl k (hp W) v l := h.sl c a.jf (fun _ _ g => a.at_ (d _ g))
theorem nu.MM (h : nu e Rl k μ v l B) (a : ST dd jD w W μ L) (c : ∀ p, p ∈ B → p ∈ L) : Fr w.heap.size v := let ⟨_, h1, _⟩ := h; h1.MM a c
theorem ST.SR {Y : List (Nat × Obj)} (g : Deep Rl k) (a : ST dd F w W μ (B ++ Y)) (h : nu e Rl k μ v l B) : ∃ μ', ST dd F w W μ' Y ∧ js μ μ' ∧ Lo F w μ μ' ∧ Sl Rl k μ' v l := by
 obtain ⟨cl, h1, d⟩ := h
 obtain ⟨μ', c, a2, a4, a3⟩ := ST.yk a h1 Dm
 exact ⟨μ', c, a2, a4, Sl.MU a3 (js.refl _) (d.imp (fun _ _ h => g.mono _ _ _ _ a2 h))⟩
variable {P : Program} {E : Nat → Value} {d : Option Nat} {ty : TypeId} {pos : String} {af : Array Edge} {g : Option (Nat × Bool)}
theorem uF {t e' : TypeId} {x a : Operand} {z : IntKind} {i : Int} {x0 : β} {A : List Value → Prop} (q : ∀ {ys}, Rl μ ys x0 → A ys) (u : P.underlying t = some (.slice e')) (he : ∀ w, (sizeOf e').run P w = .ok k w) (y : iZ E x = v) (n : iZ E a = .int z i) (s : Sl Rl k μ v l) (c : 0 ≤ i) (o : l[i.toNat]? = some x0) :
  ∃ p, (∃ ys, A ys ∧ At μ p ys) ∧ ∀ W, kq P E ⟨d, .indexAddr t x a, ty, pos, af, g⟩ W p W := by
 obtain ⟨p, ys, _, h, j, m⟩ := GY (d := d) (ty := ty) (pos := pos) (af := af) (g := g) u he y n s c o
 exact ⟨p, ⟨ys, q h, j⟩, m⟩
theorem NP {x : Operand} {t e' : TypeId} (a : P.underlying t = some (.slice e')) (i : iZ E x = v) (h : nu e Rl k μ v l B) : kq P E ⟨d, .call ⟨.builtin .len, #[x], #[t]⟩, ty, pos, af, g⟩ W (.int .i64 l.length) W := by
 obtain ⟨A, c, rfl⟩ := h.form
 exact yq a i
theorem Ox {α g : Type} {a : Nat} {l m r : List α} {c d : List g} (h : kR a l m = some r) (h1 : c.length = l.length) (i : d.length = m.length) : kR a c d = some (c ++ d) ∧ r = l ++ m := by
 unfold kR at h ⊢
 rw [h1, i]
 split at h
 ·rename_i j; cases h; rw [aq j]; exact ⟨rfl, rfl⟩
 ·cases h
theorem Np {K : Value → World → Prop} {t : TypeId} {a : Nat} {z vs : Value} {m r : List β} {Y : List (Nat × Obj)} {x y : Operand} {i : TypeInfo} (hD : Deep Rl k) (j : ST dd F w W μ (B ++ Y)) (p : 0 < k) (Q : P.underlying t = some (.slice e)) (L : P.info? e = some i) (U : i.zero = some z) (s : z.cells.size = k) (q : i.size = k) (o : i.bytes = a) (R : iZ E x = v) (T : iZ E y = vs) (I : nu e Rl k μ v l B) (M : KW Rl k μ W vs m) (J : kR a l m = some r) (h : ∀ W' c R', ST dd F w W' μ (R' ++ Y) → nu e Rl k μ c r R' → K c W') : lD P E ⟨d, .call ⟨.builtin .append, #[x, y], #[t, t]⟩, ty, pos, af, g⟩ W K := by
 obtain ⟨cl, h1, u⟩ := I
 obtain ⟨Z, G, A⟩ := M
 obtain ⟨n, rfl⟩ := Ox J u.length A.length
 exact kX j Dm p SU Q L U s q o R T h1 G n (fun W' c R' D a2 => h W' c R' D ⟨_, a2, u.append A⟩)
end
end Go.Proofs.YtbnbdigcbldfhaaGreat
namespace Go.Proofs.YtbnbdigcbldfhaaGreat
open Go.IntKind renaming wrap → wi0
open Go.RowKit
def oq (dd : Bool) (P : Program) (f : FuncId) (args : List Value) (w : World) (μ0 : jw) (L0 : List (Nat × Obj)) (K : Value → List (Nat × Obj) → jw → Prop) : Prop :=
 Calls P f args.toArray w fun e a => ∃ v L1 μ1, e = .returned v ∧ pX dd L0 L1 w a ∧ js μ0 μ1 ∧ Lo (keys L0) w μ0 μ1 ∧ js μ1 (pY a L1) ∧ K v L1 μ1
theorem oq.kw {dd : Bool} {P : Program} {f : FuncId} {args : List Value} {w : World} {μ0 : jw} {L0 : List (Nat × Obj)} {K : Value → List (Nat × Obj) → jw → Prop} (h : oq true P f args w μ0 L0 K) : oq dd P f args w μ0 L0 K :=
 bp h fun _ _ ⟨v, L1, μ1, h1, a, c⟩ => ⟨v, L1, μ1, h1, a.kw, c⟩
section
variable {dd : Bool} {F : Nat → Prop} {w W W' : World} {μ μ1 : jw} {L L0 L1 L2 : List (Nat × Obj)}
theorem ST.OW (h : ST dd F w W μ (L0 ++ L)) (g : pX dd L0 L1 W W') (i : Lo (keys L0) W μ μ1) (d : js μ1 (pY W' L1)) : ST dd F w W' μ1 (L1 ++ L) := by
 have h1 := h.back g
 refine ⟨h1.os, h1.tape, h1.output, h1.drawn, h1.size, h1.kN, fun b o hm => ?_, fun b o a => ?_, h1.nd⟩
 ·have := d b o hm
  unfold pY at this
  split at this
  ·cases this
  ·exact this
 ·obtain ⟨j, m, k⟩ := h1.box b o a
  refine ⟨j, ?_, k⟩
  rcases aI.1 a with a | a
  ·cases hm : μ1 b with
   | none => rfl
   | some x =>
    have := d b x hm
    unfold pY at this
    rw [aq ⟨o, a⟩] at this
    cases this
  ·have c := h.box b o (bY _ a)
   rw [i b (mB c.1) (Ei h.nd a)]
   exact c.2.1
variable {P : Program} {E : Nat → Value} {d : Option Nat} {ty : TypeId} {pos : String} {af : Array Edge} {g : Option (Nat × Bool)}
theorem JL {K : Value → World → Prop} {K' : Value → List (Nat × Obj) → jw → Prop} {f : FuncId} {fv : Operand} {ax : Array Operand} {ats : Array TypeId} {caps : Array Value} {args : List Value} (L0 L2 : List (Nat × Obj)) (a : ST dd F w W μ L) (c : L.Perm (L0 ++ L2)) (y : iZ E fv = .func (.func f) #[] caps) (he : ∀ args w, (callFunc f args).run P w = .ok (.enter f args) w) (t : ax.map (iZ E) ++ (#[] : Array Value) = args.toArray) (x : By L0 W → (L0.map (·.1)).Nodup → js μ (pY W L0) → (∀ b o, (b, o) ∈ L2 → pY W L0 b = some o) → oq dd P f (args ++ caps.toList) W μ L0 K') (h : ∀ W' v μ' L1, ST dd F w W' μ' (L1 ++ L2) → js μ μ' → Lo F w μ μ' → K' v L1 μ' → K v W') : lD P E ⟨d, .call ⟨.value fv, ax, ats⟩, ty, pos, af, g⟩ W K := by
 have i : ax.map (iZ E) = args.toArray := by simpa using t
 refine Ef (args := (args ++ caps.toList).toArray) y he (by rw [i]; simp) (bp (x (a.held c) (a.Od c) (a.OG c) (a.G1 c)) (fun _ W' ⟨v, L1, μ1, h1, k, m, j, n, p⟩ => ⟨v, h1, h W' v μ1 L1 ((a.perm c).OW k j n) m (fun b u s => j b (cE u a.size) (fun ⟨o, z⟩ => by
  rcases ((a.perm c).box b o (aW _ z)).2.2 with q | q
  ·omega
  ·exact s q)) p⟩))
end
section
variable {P : Program} {E : Nat → Value} {W : World} {d : Option Nat} {ty : TypeId} {pos : String} {af : Array Edge} {g : Option (Nat × Bool)}
 {dd : Bool} {F : Nat → Prop} {w : World} {μ : jw} {L : List (Nat × Obj)}
def D6 {α : Type} (a : Nat) (z : α) (n : Int) : Option (List α) := if 0 ≤ n ∧ (a : Int) * n ≤ 140737488355328 ∧ n ≤ (maxLen : Int) then some (List.replicate n.toNat z) else none
theorem G0 {α : Type} {enc : α → List Value} {k : Nat} (hk : ∀ x, (enc x).length = k) (a : 0 < k) (z : α) (n : Nat) : (madeCells (enc z).toArray (n * k)).toList = ((List.replicate n z).map enc).flatten := by
 apply List.ext_getElem
 ·rw [ns hk, bL, size_madeCells]; simp
 ·intro i h1 h
  rw [bL, size_madeCells] at h1
  have j : i / k < n := by rw [fG a]; exact h1
  have d : i % k < (enc z).length := by rw [hk]; exact Nat.mod_lt _ a
  have c := vH hk (List.replicate n z) (i / k) z (by rw [List.getElem?_replicate, aq j]) (i % k) _ (bq d)
  rw [show i / k * k + i % k = i by rw [Nat.mul_comm]; exact Nat.div_add_mod i k] at c
  rw [bq h] at c
  have g := Option.some.inj c
  rw [g]
  simp only [madeCells, Array.getElem_toList, Array.getElem_map, Array.getElem_range, bJ, hk]
  rw [fj _ _ (by simpa using d)]
  simp
theorem JV {K : Value → World → Prop} {α : Type} {e t : TypeId} {enc : α → List Value} {k a : Nat} {c : Value} {n : Int} {m : IntKind} {z : α} {r : List α} {x y : Operand} {i : TypeInfo} (o : ST dd F w W μ L) (hk : ∀ x, (enc x).length = k) (s : 0 < k) (Q : P.underlying t = some (.slice e)) (J : P.info? e = some i) (U : i.zero = some c) (u : i.size = k) (q : i.bytes = a) (I : c.cells = (enc z).toArray) (R : iZ E x = .int m n) (T : iZ E y = .int m n) (j : D6 a z n = some r) (h : ∀ W' v R', ST dd F w W' μ (R' ++ L) → jl e enc k v r R' → K v W') : lD P E ⟨d, .makeSlice t x y, ty, pos, af, g⟩ W K := by
 unfold D6 at j
 split at j
 case isFalse => cases j
 rename_i p
 cases j
 obtain ⟨A, h1, D⟩ := p
 subst u; subst q
 have G : n.toNat ≤ maxLen := by omega
 have M := run_make (P := P) W t e i c Q J U m m n n A (Int.le_refl _) (by omega) (by simp only [maxLen] at D; omega)
 refine .inl ⟨.slice (some ⟨W.heap.size, 0, none⟩) n.toNat n.toNat, W.alloc (.cells (madeCells c.cells (n.toNat * i.size)) e), ?_, h _ _ [(W.heap.size, .cells (madeCells c.cells (n.toNat * i.size)) e)] (o.alloc _) ?_⟩
 ·show (do pure (.value (← Instr.makeSlice t (iZ E x) (iZ E y))) : Sem Next).run P W = _
  rw [R, T]
  simp only [aZ, M, aN, bP]
 ·exact jl.lit (by rw [fH]) G (by rw [I]; exact G0 hk s z _) (by rw [size_madeCells])
end
section
variable {P : Program} {E : Nat → Value} {W : World} {d : Option Nat} {ty : TypeId} {pos : String} {af : Array Edge} {g : Option (Nat × Bool)}
theorem RC {op : BinOp} {tx tv : TypeId} {x y : Operand} {k : IntKind} {a b : Int} {v : Value} (i : iZ E x = .int k a) (j : iZ E y = .int k b) (h : (match op with | .and => some (BitVec.ofInt k.bits a &&& BitVec.ofInt k.bits b) | .or => some (BitVec.ofInt k.bits a ||| BitVec.ofInt k.bits b) | .xor => some (BitVec.ofInt k.bits a ^^^ BitVec.ofInt k.bits b) | _ => none).map (fun (c : BitVec k.bits) => Value.int k (k.wrap c.toNat)) = some v) :
  kq P E ⟨d, .binOp op tx x y tv, ty, pos, af, g⟩ W v W := by
 show (do let r ← (do eqGuard op tx x y (iZ E x) (iZ E y); binOp op tx (iZ E x) (iZ E y)); pure (.value r) : Sem Next).run P W = _
 rw [i, j]
 cases op <;> simp at h <;> subst h <;> simp [eqGuard, binOp, Op.intBits]
theorem Ll {tx tv : TypeId} {x y : Operand} {k k' : IntKind} {a b : Int} (c : iZ E x = .int k a) (h : iZ E y = .int k' b) (i : 0 ≤ b) :
  kq P E ⟨d, .binOp .shl tx x y tv, ty, pos, af, g⟩ W (.int k (k.wrap (a * 2 ^ min b.toNat k.bits))) W := by
 show (do let r ← (do eqGuard .shl tx x y (iZ E x) (iZ E y); binOp .shl tx (iZ E x) (iZ E y)); pure (.value r) : Sem Next).run P W = _
 rw [c, h]
 simp [eqGuard, binOp, Op.shift, show ¬ b < 0 by omega]
end
theorem qZ.AU {κ γ : Type} {kenc : κ → Value} {Q : Value → γ → List (Nat × Obj) → Prop} {μ : jw} {v : Value} {l : List (κ × γ)} (h : qZ kenc Q μ v l) : v.oneCell' = true := by
 obtain ⟨a, R, h, _⟩ := h
 obtain ⟨m, rfl⟩ := h.form
 rfl
theorem tX.AU {κ β : Type} {kenc : κ → Value} {vf : β → Value} {μ : jw} {v : Value} {l : List (κ × β)} (h : tX kenc vf μ v l) : v.oneCell' = true := by
 obtain ⟨m, rfl⟩ := h.form
 rfl
section
variable {dd : Bool}
def JN {α : Type} (R : py α) : jw → List Value → α → Prop := fun μ vs x => ∃ ys, vs = [.agg ys.toArray] ∧ R μ ys x
theorem JN.mk {α : Type} {R : py α} {k : Nat} {μ μ' : jw} {ys : List Value} {x : α} (a : Deep R k) (h : R μ ys x) (c : js μ μ') : JN R μ' [.agg ys.toArray] x := ⟨ys, rfl, a.mono _ _ _ _ c h⟩
def Hn {α β : Type} (P : Program) (fv : Value) (μ : jw) (a : jw → List Value → α → Prop) (c : β → Value) (pm : α → Option β) : Prop :=
 ∃ f first caps, fv = .func (.func f) first caps ∧ (∀ args w, (callFunc f args).run P w = .ok (.enter f args) w) ∧ ∀ W x vs r, js μ (hp W) → a (hp W) vs x → pm x = some r → jv false P f (first.toList ++ (vs ++ caps.toList)) W (c r)
theorem Hn.form {α β : Type} {P : Program} {fv : Value} {μ : jw} {c : jw → List Value → α → Prop} {d : β → Value} {pm : α → Option β} (h : Hn P fv μ c d pm) : ∃ f a b, fv = .func f a b := let ⟨f, a, b, h, _⟩ := h; ⟨_, a, b, h⟩
end
section
variable {P : Program} {W : World} {E : Nat → Value} {d : Option Nat} {ty : TypeId} {pos : String} {af : Array Edge} {g : Option (Nat × Bool)} {F : Nat → Prop} {w : World} {μ μ0 : jw} {L : List (Nat × Obj)}
theorem Hn.mono {α β : Type} {fv : Value} {a : jw → List Value → α → Prop} {c : β → Value} {pm : α → Option β} (h : Hn P fv μ a c pm) (i : js μ μ0) : Hn P fv μ0 a c pm := by
 obtain ⟨f, first, caps, h1, d, g⟩ := h
 exact ⟨f, first, caps, h1, d, fun W x vs r h => g W x vs r (i.trans h)⟩
theorem R0 {α β : Type} {K : Value → World → Prop} {fv : Value} {j : jw → List Value → α → Prop} {k : β → Value} {pm : α → Option β} {c : Operand} {ax : Array Operand} {ats : Array TypeId} (x : α) {vs : List Value} {r : β} (a : ST false F w W μ L) (t : Hn P fv μ0 j k pm) (v : js μ0 μ) (q : j (hp W) vs x) (u : iZ E c = fv) (s : ax.map (iZ E) ++ (#[] : Array Value) = vs.toArray) (hm : pm x = some r) (h : ∀ W', ST false F w W' μ L → K (k r) W') : lD P E ⟨d, .call ⟨.value c, ax, ats⟩, ty, pos, af, g⟩ W K := by
 obtain ⟨f, first, caps, rfl, m, n⟩ := t
 have i : ax.map (iZ E) = vs.toArray := by simpa using s
 refine .inr (.inr ⟨f, (first.toList ++ (vs ++ caps.toList)).toArray, ?_, bp (n W x vs r (v.trans a.jf) q hm) (fun _ _ ⟨o, p⟩ => ⟨_, o, h _ (a.Ej p)⟩)⟩)
 show (do let d ← resolve (iZ E) ⟨.value c, ax, ats⟩ ty; invoke d.target d.args : Sem Next).run P W = _
 simp only [resolve, u, Deferred.ofValue, aZ, bP, aN, invoke, i, m]
 congr 2
 simp
end
section
variable {dd : Bool}
variable {β : Type} {Rl : py β} {k : Nat} {μ : jw} {v : Value} {l : List β} {e : TypeId} {B : List (Nat × Obj)}
variable {F : Nat → Prop} {w W : World} {L : List (Nat × Obj)}
variable {P : Program} {E : Nat → Value} {d : Option Nat} {ty : TypeId} {pos : String} {af : Array Edge} {g : Option (Nat × Bool)}
theorem IL {α : Type} {enc : α → List Value} (hk : ∀ x, (enc x).length = k) (c : 0 < k) (d : ∀ x y, enc x = enc y → x = y) : ∀ {l m : List α}, (l.map enc).flatten = (m.map enc).flatten → l = m
 | [], [], _ => rfl
 | [], b :: m, h => by
  have := aw List.length h
  simp only [dG, List.flatten_nil, bH, aO, cA, aj, hk] at this
  omega
 | a :: l, [], h => by
  have := aw List.length h
  simp only [dG, List.flatten_nil, bH, aO, cA, aj, hk] at this
  omega
 | a :: l, b :: m, h => by
  simp only [aO, cA] at h
  obtain ⟨h1, g⟩ := List.append_inj h (by rw [hk, hk])
  rw [d _ _ h1, IL hk c d g]
theorem Ti (x y : qM k) (h : tH x = tH y) : x = y := Subtype.ext h
theorem jl.pre {v1 : Value} {cl a : List (qM k)} (g : 0 < k) (h : jl e tH k v cl B) (h1 : jl e tH k v1 a B) (d : a.length ≤ cl.length) : a = cl.take a.length := by
 rcases h with ⟨rfl, rfl, rfl⟩ | ⟨s, cap, c, rfl, rfl, t, u, w, p⟩
 ·simp at d; simp [d]
 ·rcases h1 with ⟨_, _, h⟩ | ⟨g1, i, j, rfl, m, q, a2, a3, a4⟩
  ·cases h
  ·cases m
   refine IL Dm g Ti ?_
   rw [← a4]
   have hle : a.length * k ≤ cl.length * k := bd _ d
   have : c.toList.take (a.length * k) = (c.toList.take (cl.length * k)).take (a.length * k) := by rw [ej, bO hle]
   rw [this, p]
   have n : (cl.map tH).flatten = ((cl.take a.length).map tH).flatten ++ ((cl.drop a.length).map tH).flatten := by rw [← ez, ← bh, dV]
   have o : ((cl.take a.length).map tH).flatten.length = a.length * k := by rw [ns Dm, bA, bO d]
   rw [n, ← o, fh]
theorem ox.replicate {α β : Type} {Q : α → β → Prop} {a : α} {b : β} (h : Q a b) : ∀ n, ox Q (List.replicate n a) (List.replicate n b)
 | 0 => .nil
 | n + 1 => .cons h (ox.replicate h n)
theorem nu.NV {c d : List β} {i : Value} {R2 : List (Nat × Obj)} (a : 0 < k) (j : nu e Rl k μ v l B) (h1 : nu e Rl k μ i d B) (m : nu e Rl k μ v c R2) (n : d.length ≤ c.length) : nu e Rl k μ i (c.take d.length) R2 := by
 obtain ⟨cl, o, s⟩ := j
 obtain ⟨c1, p, g⟩ := h1
 obtain ⟨c2, q, h⟩ := m
 refine ⟨_, jl.NV a Dm o p q (by rw [g.length, h.length]; exact n), ?_⟩
 rw [g.length]
 exact h.take _
end
section
variable {P : Program} {W : World} {E : Nat → Value} {d : Option Nat} {ty : TypeId} {pos : String} {af : Array Edge} {g : Option (Nat × Bool)}
theorem NI {tx tv : TypeId} {x y : Operand} {fv : Value} {s u : Array TypeId} {bb : Bool} (i : P.underlying tx = some (.func s u bb)) (h : ∃ f a b, fv = .func f a b) (j : iZ E x = fv) (k : iZ E y = .nilFunc) :
  kq P E ⟨d, .binOp .neq tx x y tv, ty, pos, af, g⟩ W (.bool true) W := by
 obtain ⟨f, a, b, rfl⟩ := h
 show (do let r ← (do eqGuard .neq tx x y (iZ E x) (iZ E y); binOp .neq tx (iZ E x) (iZ E y)); pure (.value r) : Sem Next).run P W = _
 rw [j, k]
 have c := xf 9999 i f a b W
 simp [eqGuard, binOp, Op.equal, show Op.maxDepth = 9999 + 1 from rfl, c]
end
theorem bS {α β : Type} {m : Option α} {f : α → Option β} {r : β} {G : Prop} (h : m.bind f = some r) (k : ∀ x, m = some x → f x = some r → G) : G :=
 let ⟨x, a, b⟩ := bind_some h
 k x a b
theorem sj {α : Type} {a b : α} (h : some a = some b) : a = b := Option.some.inj h
theorem bC {α : Type} {b : Bool} {x y r : α} {G : Prop} (h : (if b = true then x else y) = r) (a : b = true → x = r → G) (k2 : b = false → y = r → G) : G := by
 rcases Ms b with e | e
 ·exact a e (QU e h)
 ·exact k2 e (QX e h)
theorem cB {a b : Bool} (h : a = b) : Value.bool a = Value.bool b := aw Value.bool h
theorem nb {a b : Nat} (h : Nat.ble a b = true := by exact rfl) : a ≤ b := Nat.le_of_ble_eq_true h
def SG : Nat → Nat → List Bool
 | 0, _ => []
 | n + 1, m => (m % 2 == 1) :: SG n (m / 2)
def bm (n m : Nat) : Array Bool := (SG n m).toArray
section
variable {P : Program} {n : Nat} {Q : mo} {E : Nat → Value} {W : World}
theorem CI {α : Type} {co : Operand} {b : Bool} {x y : Code} {A B r : α} (hm : (if b = true then A else B) = r) (a : iZ E co = .bool b) (d : b = true → A = r → CW P n x Q E W) (c : b = false → B = r → CW P n y Q E W) : CW P n (.cond co x y) Q E W :=
 LV a (fun e => d e (QU e hm)) (fun e => c e (QX e hm))
theorem CJ {c ρ : Type} {m : Option c} {k : c → Option ρ} {r : ρ} {x : Code} {K : (Nat → Value) → World → Prop} (hm : m.bind k = some r) (I : c → (Nat → Value) → World → Prop) (h1 : ∀ s, m = some s → CW P n x (ot (I s) Q) E W) (d : ∀ s E W, I s E W → k s = some r → K E W) : CW P n x (ot K Q) E W :=
 let ⟨s, a, b⟩ := bind_some hm
 Nv (I s) (h1 s a) (fun E W h => d s E W h b)
theorem D0 {d ρ c : Type} {m : Option (c ⊕ d)} {k : c ⊕ d → Option ρ} {r : ρ} {x : Code} {K : (Nat → Value) → World → Prop} (hm : m.bind k = some r) (I : d → (Nat → Value) → World → Prop) (h1 : ∀ s, m = some s → k s = some r → CW P n x (ot (fun E W => ∃ t, s = .inr t ∧ I t E W) Q) E W) (g : ∀ s E W, I s E W → k (.inr s) = some r → K E W) : CW P n x (ot K Q) E W :=
 let ⟨s, a, b⟩ := bind_some hm
 Nv (fun E W => ∃ t, s = .inr t ∧ I t E W) (h1 s a b) (fun E W ⟨t, e, h⟩ => g t E W h (by subst e; exact b))
theorem LJ {c ρ : Type} {m : Option c} {k : c → Option ρ} {r : ρ} {ops : Array Oper} {rest : List Oper} (hm : m.bind k = some r) (I : c → (Nat → Value) → World → Prop) (j : Nat) (d : ∀ s E W, I s E W → k s = some r → LW P n ops Q (rest.drop j) E W) (h1 : ∀ s, m = some s → (∀ E W, I s E W → LW P n ops Q (rest.drop j) E W) → LW P n ops Q rest E W) : LW P n ops Q rest E W :=
 let ⟨s, a, b⟩ := bind_some hm
 h1 s a (fun E W h => d s E W h b)
theorem PJ {c ρ : Type} {m : Option c} {k : c → Option ρ} {r : ρ} {ops : Array Oper} {S : Array Bool → World → Prop} {fuel : Nat} {listed : Array Bool} (hm : m.bind k = some r) (I : c → (Nat → Value) → World → Prop) (g : Array Bool) (d : Nat) (i : ∀ s E W, I s E W → k s = some r → PX P n ops Q S d g E W) (h1 : ∀ s, m = some s → (∀ E W, I s E W → PX P n ops Q S d g E W) → PX P n ops Q S fuel listed E W) : PX P n ops Q S fuel listed E W :=
 let ⟨s, a, b⟩ := bind_some hm
 h1 s a (fun E W h => i s E W h b)
end
section
variable {dd : Bool} {P : Program} {fn : Func} {E : Nat → Value} {W w : World} {μ : jw} {L : List (Nat × Obj)}
theorem rP {t : Tmp} {v : Value} (a : ST dd jD w W μ L) (c : fn.results = #[.tmp t] := by exact rfl) (d : E t = v := by exact rfl) : wE P fn (fun e W' => e = .returned v ∧ Ex dd w W') .ret E W := jR c d ⟨rfl, a.ex⟩
end
theorem ST.S5 {dd : Bool} {F : Nat → Prop} {w W : World} {μ : jw} {x : Nat × Obj} {L : List (Nat × Obj)} (h : ST dd F w W μ (x :: L)) : ST dd F w W μ ([x] ++ L) := h
theorem ST.QV {dd : Bool} {F : Nat → Prop} {w W : World} {μ : jw} {L : List (Nat × Obj)} (h : ST dd F w W μ L) : ST dd F w W μ ([] ++ L) := h
theorem aL {E : Nat → Value} {ax : Array Operand} {l : List Value} (h : ax.toList.map (iZ E) = l) : ax.map (iZ E) ++ (#[] : Array Value) = l.toArray := by subst h; apply Array.ext'; simp
section
variable {dd : Bool}
variable {P : Program} {E : Nat → Value} {W : World} {d : Option Nat} {ty : TypeId} {pos : String} {af : Array Edge} {g : Option (Nat × Bool)}
 {F : Nat → Prop} {w : World} {μ : jw} {L : List (Nat × Obj)}
variable {f : FuncId} {fv : Operand} {ax : Array Operand} {ats : Array TypeId} {args : List Value} {v : Value} {K : Value → World → Prop}
theorem Eg (a : ST dd F w W μ L) (he : ∀ args w, (callFunc f args).run P w = .ok (.enter f args) w) (i : jv dd P f args W v) (h : ∀ W', ST dd F w W' μ L → K v W') (j : iZ E fv = .func (.func f) #[] #[] := by exact rfl) (c : ax.toList.map (iZ E) = args := by exact rfl) : lD P E ⟨d, .call ⟨.value fv, ax, ats⟩, ty, pos, af, g⟩ W K := PI a j he (aL c) i h
theorem pT {α : Type} {e : TypeId} {enc : α → List Value} {k : Nat} {l : List α} {Y : List (Nat × Obj)} (a : ST dd F w W μ Y) (he : ∀ args w, (callFunc f args).run P w = .ok (.enter f args) w) (i : jZ dd P f args W e enc k l) (h : ∀ W' v μ' R, ST dd F w W' μ' (R ++ Y) → js μ μ' → Lo F w μ μ' → jl e enc k v l R → K v W') (j : iZ E fv = .func (.func f) #[] #[] := by exact rfl) (c : ax.toList.map (iZ E) = args := by exact rfl) : lD P E ⟨d, .call ⟨.value fv, ax, ats⟩, ty, pos, af, g⟩ W K := Lm _ a j he (aL c) i h
theorem F0 {K' : Value → List (Nat × Obj) → World → Prop} {L0 L2 : List (Nat × Obj)} (i : ST dd F w W μ L) (j : L.Perm (L0 ++ L2)) (he : ∀ args w, (callFunc f args).run P w = .ok (.enter f args) w) (m : By L0 W → (L0.map (·.1)).Nodup → js μ (pY W L0) → (∀ b o, (b, o) ∈ L2 → pY W L0 b = some o) → jY dd P f args W L0 K') (h : ∀ W' v μ' L1, ST dd F w W' μ' (L1 ++ L2) → js μ μ' → Lo F w μ μ' → (∀ b, W.heap.size ≤ b → ∀ o, pY W' L1 b = some o → μ' b = some o) → K' v L1 W' → K v W') (n : iZ E fv = .func (.func f) #[] #[] := by exact rfl) (k : ax.toList.map (iZ E) = args := by exact rfl) : lD P E ⟨d, .call ⟨.value fv, ax, ats⟩, ty, pos, af, g⟩ W K :=
 PK L0 L2 i j n he (aL k) (fun a b c d => by have := m a b c d; simpa using this) h
theorem Nq {K' : Value → List (Nat × Obj) → jw → Prop} {L0 L2 : List (Nat × Obj)} (i : ST dd F w W μ L) (j : L.Perm (L0 ++ L2)) (he : ∀ args w, (callFunc f args).run P w = .ok (.enter f args) w) (m : By L0 W → (L0.map (·.1)).Nodup → js μ (pY W L0) → (∀ b o, (b, o) ∈ L2 → pY W L0 b = some o) → oq dd P f args W μ L0 K') (h : ∀ W' v μ' L1, ST dd F w W' μ' (L1 ++ L2) → js μ μ' → Lo F w μ μ' → K' v L1 μ' → K v W') (n : iZ E fv = .func (.func f) #[] #[] := by exact rfl) (k : ax.toList.map (iZ E) = args := by exact rfl) : lD P E ⟨d, .call ⟨.value fv, ax, ats⟩, ty, pos, af, g⟩ W K :=
 JL L0 L2 i j n he (aL k) (fun a b c d => by have := m a b c d; simpa using this) h
end
def Tx (R : List (Nat × Obj)) (k : Nat) (p : Value) (i a : Nat) : Prop := ∃ g o, R = [(g, o)] ∧ p = .pointer (some ⟨g, i * k + a, none⟩)
theorem CE.f {R : List (Nat × Obj)} {k : Nat} {p : Value} {i : Nat} (h : CE R k p i) : Tx R k p i 0 := h
section
variable {P : Program} {E : Nat → Value} {W : World} {d : Option Nat} {ty : TypeId} {pos : String} {af : Array Edge} {g : Option (Nat × Bool)}
 {dd : Bool} {F : Nat → Prop} {w : World} {μ : jw} {L : List (Nat × Obj)} {α : Type} {e' : TypeId} {enc : α → List Value} {k : Nat} {v : Value} {l : List α} {R : List (Nat × Obj)}
theorem jl.put (h : jl e' enc k v l R) (hk : ∀ x, (enc x).length = k) {p : Value} {i : Nat} (hp : CE R k p i) {x0 : α} (t : l[i]? = some x0) (x1 : α) :
  ∃ g a, R = [(g, .cells a e' (0, 0))] ∧ p = .pointer (some ⟨g, i * k, none⟩) ∧ i * k + k ≤ a.size ∧ (∀ j y, (enc x0)[j]? = some y → a[i * k + j]? = some y) ∧
   jl e' enc k v (l.set i x1) [(g, .cells (a.toList.take (i * k) ++ enc x1 ++ a.toList.drop (i * k + k)).toArray e' (0, 0))] := by
 have n : i < l.length := (aF.1 t).1
 obtain ⟨q, a, cap, rfl, rfl, s, z, m, A, rfl, D⟩ := zZ h hk hp t
 have hle : i * k + k ≤ cap * k := by
  have : (i + 1) * k ≤ cap * k := bd _ (by omega)
  rwa [bn, iJ] at this
 have c : i * k + k ≤ l.length * k := by
  have : (i + 1) * k ≤ l.length * k := bd _ (by omega)
  rwa [bn, iJ] at this
 have hlen : l.length * k ≤ cap * k := bd _ s
 refine ⟨q, a, rfl, rfl, by rw [m]; exact hle, D, .inr ⟨q, cap, _, by simp, rfl, by simpa using s, z, ?_, ?_⟩⟩
 ·show ((a.toList.take (i * k) ++ (enc x1) ++ a.toList.drop (i * k + k)).toArray).size = _
  have d : a.toList.length = cap * k := by simpa using m
  rw [bJ, aj, aj, bA, cg, hk, d, bO (by omega)]; omega
 ·rw [gf, EW hk l i x1 n, ← A]
  have u : (a.toList.take (l.length * k)).take (i * k) = a.toList.take (i * k) := by rw [ej]; congr 1; omega
  have w : (a.toList.take (l.length * k)).drop (i * k + k) = (a.toList.drop (i * k + k)).take (l.length * k - (i * k + k)) := by rw [eZ]
  rw [u, w]
  show List.take (l.length * k) (a.toList.take (i * k) ++ enc x1 ++ a.toList.drop (i * k + k)) = _
  have d : a.toList.length = cap * k := by simpa using m
  have o : (a.toList.take (i * k) ++ enc x1).length = i * k + k := by rw [aj, bA, hk, d, bO (by omega)]
  rw [dl, bU (by rw [o]; exact c), o]
end
theorem oc {v : Value} (h : v.cells.toList.all Value.oneCell' = true := by exact rfl) : ∀ u ∈ v.cells.toList, u.oneCell' = true := fN.1 h
theorem dc {p : Prop} [Decidable p] (h : p := by decide) : p := h
theorem kr {p : Prop} (h : p := by kernel_rfl) : p := h
theorem br {α : Sort _} {a b : α} (h : a = b := by rfl) : a = b := h
abbrev LO := List (Nat × Obj)
abbrev Ob (c : Array Value) (t : TypeId) : Obj := .cells c t (0, 0)
abbrev Ol (c : List Value) (t : TypeId) : Obj := .cells c.toArray t (0, 0)
theorem lV {P : Program} {t e : TypeId} {m k : Nat} {z : Value} {a : Array (Nat × Value)} {cs : Array Value} (j : P.underlying t = some (.slice e)) (i : ∀ w, (sizeOf e).run P w = .ok k w) (o : ∀ w, (zeroValue e).run P w = .ok z w) (hm : m * k ≤ 16777216 := by decide) (g : a.toList = (a.toList.map (·.2)).zipIdx.map (fun p => (p.2, p.1)) := by exact rfl) (n : (a.toList.map (·.2)).all (fun v => v.cells.size == k) = true := by exact rfl) (d : (a.toList.map (·.2)).length = m := by exact rfl) (c : ((a.toList.map (·.2)).flatMap (fun v => v.cells.toList)).toArray = cs := by exact rfl) (W : World) :
  (Instr.buildSlice t m a).run P W = .ok (.slice (some ⟨W.heap.size, 0, none⟩) m m) (W.alloc (.cells cs e (0, 0))) :=
 B9 _ j i o hm g (fun v h => eq_of_beq (fN.1 n v h)) d c W
section
variable {dd : Bool} {P : Program} {fn : Func} {E : Nat → Value} {W w : World} {μ : jw} {L L0 : List (Nat × Obj)}
theorem rQ {α : Type} {f : α → Value} {a r : α} {t : Tmp} (hm : some a = some r) (c : ST dd jD w W μ L) (d : fn.results = #[.tmp t] := by exact rfl) (g : E t = f a := by exact rfl) : wE P fn (fun e W' => e = .returned (f r) ∧ Ex dd w W') .ret E W := by
 obtain rfl := sj hm; exact jR d g ⟨rfl, c.ex⟩
theorem cG (n : Nat) {f : FuncId} {c : Code} {args : List Value} {v : Value} (a : P.funcs[f]? = some fn) (d : fn.body = some c) (h : ST dd jD w w (hp w) [] → CW P n c (wE P fn (fun e j => e = .returned v ∧ Ex dd w j)) (vO args) w) (i : fn.ntmps = n := by exact rfl) (g : args.length ≤ n := by exact nb) : jv dd P f args w v := yA a d i g (h (ST.start w))
theorem tS {K : Value → List (Nat × Obj) → World → Prop} (n : Nat) {f : FuncId} {c : Code} {args : List Value} (a : P.funcs[f]? = some fn) (g : fn.body = some c) (h : ST dd jD w w (hp w) [] → CW P n c (wE P fn (fun e d => ∃ v L1, e = .returned v ∧ pX dd [] L1 w d ∧ K v L1 d)) (vO args) w) (j : fn.ntmps = n := by exact rfl) (i : args.length ≤ n := by exact nb) : jY dd P f args w [] K := yA a g j i (h (ST.start w))
theorem wJ {K : Value → List (Nat × Obj) → World → Prop} (g : nR μ L0 w) (n : Nat) {f : FuncId} {c : Code} {args : List Value} (a : P.funcs[f]? = some fn) (i : fn.body = some c) (h : ST dd (keys L0) w w μ L0 → CW P n c (wE P fn (fun e d => ∃ v L1, e = .returned v ∧ pX dd L0 L1 w d ∧ K v L1 d)) (vO args) w) (k : fn.ntmps = n := by exact rfl) (j : args.length ≤ n := by exact nb) : jY dd P f args w L0 K := yA a i k j (h (ST.ur g))
theorem Qy {K : Value → List (Nat × Obj) → jw → Prop} (g : nR μ L0 w) (n : Nat) {f : FuncId} {c : Code} {args : List Value} (a : P.funcs[f]? = some fn) (i : fn.body = some c) (h : ST dd (keys L0) w w μ L0 → CW P n c (wE P fn (fun e d => ∃ v L1 μ1, e = .returned v ∧ pX dd L0 L1 w d ∧ js μ μ1 ∧ Lo (keys L0) w μ μ1 ∧ js μ1 (pY d L1) ∧ K v L1 μ1)) (vO args) w) (k : fn.ntmps = n := by exact rfl) (j : args.length ≤ n := by exact nb) : oq dd P f args w μ L0 K := yA a i k j (h (ST.ur g))
end
section
variable {dd : Bool}
variable {P : Program} {E : Nat → Value} {W : World} {d : Option Nat} {ty : TypeId} {pos : String} {af : Array Edge} {g : Option (Nat × Bool)}
 {F : Nat → Prop} {w : World} {μ : jw} {L : List (Nat × Obj)}
variable {f : FuncId} {fv : Operand} {ax : Array Operand} {ats : Array TypeId} {args : List Value} {v : Value} {K : Value → World → Prop}
theorem eM {K' : Value → List (Nat × Obj) → World → Prop} {L0 L2 : List (Nat × Obj)} (i : ST dd F w W μ L) (j : L.Perm (L0 ++ L2)) (he : ∀ args w, (callFunc f args).run P w = .ok (.enter f args) w) (m : nR (pY W L0) L0 W → js μ (pY W L0) → jY dd P f args W L0 K') (h : ∀ W' v μ' L1, ST dd F w W' μ' (L1 ++ L2) → js μ μ' → Lo F w μ μ' → (∀ b, W.heap.size ≤ b → ∀ o, pY W' L1 b = some o → μ' b = some o) → K' v L1 W' → K v W') (n : iZ E fv = .func (.func f) #[] #[] := by exact rfl) (k : ax.toList.map (iZ E) = args := by exact rfl) : lD P E ⟨d, .call ⟨.value fv, ax, ats⟩, ty, pos, af, g⟩ W K :=
 F0 i j he (fun a b c _ => m ⟨a, b, js.refl _⟩ c) h n k
theorem eD {K' : Value → List (Nat × Obj) → jw → Prop} {L0 L2 : List (Nat × Obj)} (i : ST dd F w W μ L) (j : L.Perm (L0 ++ L2)) (he : ∀ args w, (callFunc f args).run P w = .ok (.enter f args) w) (m : nR μ L0 W → oq dd P f args W μ L0 K') (h : ∀ W' v μ' L1, ST dd F w W' μ' (L1 ++ L2) → js μ μ' → Lo F w μ μ' → K' v L1 μ' → K v W') (n : iZ E fv = .func (.func f) #[] #[] := by exact rfl) (k : ax.toList.map (iZ E) = args := by exact rfl) : lD P E ⟨d, .call ⟨.value fv, ax, ats⟩, ty, pos, af, g⟩ W K :=
 Nq i j he (fun a b c _ => m ⟨a, b, c⟩) h n k
end
def M7 (op : BinOp) : Value → Value → Option Value
 | .int k a, .int k' b => if k = k' then H9 k op a b else none
 | _, _ => none
def QW (i : Nat) : Value → Option Value
 | .tuple vs => vs[i]?
 | _ => none
def Ii : Value → Bool
 | .pointer (some ⟨_, _, none⟩) => true
 | _ => false
def QK (o : Nat) : Value → Value
 | .pointer (some ⟨b, k, none⟩) => .pointer (some ⟨b, k + o, none⟩)
 | v => v
theorem Hl {v : Value} (h : Ii v = true) : ∃ b k, v = .pointer (some ⟨b, k, none⟩) := by
 unfold Ii at h; split at h
 ·exact ⟨_, _, rfl⟩
 ·cases h
section
variable {P : Program} {n : Nat} {Q : mo} {E : Nat → Value} {W : World} {ops : Array Oper} {rest : List Oper}
 {d j t : Nat} {want b : Bool} {v : Value} {ins : Go.Op} {ty : TypeId} {pos : String} {af : Array Edge} {A : Value → Prop} {x y : Operand}
theorem Wm (h : LW P n ops Q rest (lz E d (iZ E x)) W) (a : d < n := by decide) : LW P n ops Q (⟨some d, .move x, ty, pos, af, none⟩ :: rest) E W := V (jd rfl) h a
theorem Wa (h : LW P n ops Q rest (lz E d (iZ E x)) W) (a : d < n := by decide) : LW P n ops Q (⟨some d, .assign x, ty, pos, af, none⟩ :: rest) E W := V (mw rfl) h a
theorem Wh (c : iZ E x = v) (h : LW P n ops Q rest (lz E d v) W) (a : d < n := by decide) : LW P n ops Q (⟨some d, .move x, ty, pos, af, none⟩ :: rest) E W := V (jd c) h a
theorem Wg (c : iZ E x = v) (h : LW P n ops Q rest (lz E d v) W) (a : d < n := by decide) : LW P n ops Q (⟨some d, .assign x, ty, pos, af, none⟩ :: rest) E W := V (mw c) h a
theorem Wx {i : Nat} (a : QW i (iZ E x) = some v) (h : LW P n ops Q rest (lz E d v) W) (c : d < n := by decide) : LW P n ops Q (⟨some d, .extract x i, ty, pos, af, none⟩ :: rest) E W := by
 unfold QW at a; split at a
 ·rename_i vs e; exact V (yO e a) h c
 ·cases a
theorem Wi {op : BinOp} {tx tv : TypeId} (c : M7 op (iZ E x) (iZ E y) = some v) (h : LW P n ops Q rest (lz E d v) W) (j : d < n := by decide) : LW P n ops Q (⟨some d, .binOp op tx x y tv, ty, pos, af, none⟩ :: rest) E W := by
 unfold M7 at c; split at c
 ·rename_i k a k' b g i
  split at c
  ·rename_i e; subst e; exact V (kd g i c) h j
  ·cases c
 ·cases c
theorem Wf {t : TypeId} {f off : Nat} (a : kD P t f off) (h : LW P n ops Q rest (lz E d (QK off (iZ E x))) W) (hp : Ii (iZ E x) = true := by exact rfl) (c : d < n := by decide) : LW P n ops Q (⟨some d, .fieldAddr t x f, ty, pos, af, none⟩ :: rest) E W := by
 obtain ⟨b, k, e⟩ := Hl hp
 refine V (iY a e) ?_ c
 rw [e] at h; exact h
theorem Wn (h : LW P n ops Q rest (lz E d (iZ E x)) W) (hp : Ii (iZ E x) = true := by exact rfl) (a : d < n := by decide) : LW P n ops Q (⟨some d, .nilCheck x, ty, pos, af, none⟩ :: rest) E W := by
 obtain ⟨b, k, e⟩ := Hl hp
 refine V (lb e) ?_ a
 rw [e] at h; exact h
theorem un (h : b = !want) (k : LW P n ops Q rest (lz E d undef) W) (c : (ops[j]?).bind (·.dst) = some t := by exact rfl) (a : E t = .bool b := by exact rfl) (i : t < n := by decide) (g : d < n := by decide) :
  LW P n ops Q (⟨some d, ins, ty, pos, af, some (j, want)⟩ :: rest) E W := Vn c (by rw [a, h]) k i g
theorem ug (h : b = want) (i : kq P E ⟨some d, ins, ty, pos, af, some (j, want)⟩ W v W) (k : LW P n ops Q rest (lz E d v) W) (c : (ops[j]?).bind (·.dst) = some t := by exact rfl) (a : E t = .bool b := by exact rfl) (m : t < n := by decide) (g : d < n := by decide) :
  LW P n ops Q (⟨some d, ins, ty, pos, af, some (j, want)⟩ :: rest) E W := Vg c (by rw [a, h]) i k m g
theorem oH (h : b = want) (k : lD P E ⟨some d, ins, ty, pos, af, some (j, want)⟩ W fun v W' => LW P n ops Q rest (lz E d v) W') (c : (ops[j]?).bind (·.dst) = some t := by exact rfl) (a : E t = .bool b := by exact rfl) (i : t < n := by decide) (g : d < n := by decide) :
  LW P n ops Q (⟨some d, ins, ty, pos, af, some (j, want)⟩ :: rest) E W := ND c (by rw [a, h]) k i g
theorem SC (h : b = want) (i : ∃ p, A p ∧ ∀ W, kq P E ⟨some d, ins, ty, pos, af, some (j, want)⟩ W p W) (k : ∀ p, A p → LW P n ops Q rest (lz E d p) W) (c : (ops[j]?).bind (·.dst) = some t := by exact rfl) (a : E t = .bool b := by exact rfl) (m : t < n := by decide) (g : d < n := by decide) :
  LW P n ops Q (⟨some d, ins, ty, pos, af, some (j, want)⟩ :: rest) E W := SF c (by rw [a, h]) i k m g
section
variable {dd : Bool} {F : Nat → Prop} {w : World} {μ : jw} {L : List (Nat × Obj)} {T : TypeId} {a off : Nat} {cs : Array Value} {fr : Nat × Nat}
theorem VA {t : TypeId} (c : ST dd F w W μ L) (i : (a, Obj.cells cs T fr) ∈ L) (ys : List Value) (g : ∀ w, (isAgg t).run P w = .ok true w) (j : ∀ w, (sizeOf t).run P w = .ok ys.length w) (h : LW P n ops Q rest (lz E d (.agg ys.toArray)) W) (m : iZ E x = .pointer (some ⟨a, off, none⟩) := by exact rfl) (o : (cs.toList.drop off).take ys.length = ys := by exact rfl) (k : d < n := by decide) : LW P n ops Q (⟨some d, .load t x, ty, pos, af, none⟩ :: rest) E W := V (iW m (jc c.has i ys o g j)) h k
theorem VB {t : TypeId} (c : ST dd F w W μ L) (i : (a, Obj.cells cs T fr) ∈ L) (k : iZ E x = .pointer (some ⟨a, off, none⟩)) (m : cs[off]? = some v) (g : ∀ w, (isAgg t).run P w = .ok false w) (h : LW P n ops Q rest (lz E d v) W) (j : d < n := by decide) : LW P n ops Q (⟨some d, .load t x, ty, pos, af, none⟩ :: rest) E W := V (iW k (jg c.has i m g)) h j
end
section
variable {K : (Nat → Value) → World → Prop} {Q' : mo} {c : Code} {id id2 : Nat} {l : List Oper} {z : Code}
theorem sg (h : LW P n l.toArray (ot (fun E W => CW P n c Q E W) Q) l E W) : CW P n (.seq (.region id l.toArray false) c) Q E W := jm (jj h)
theorem ln (h : K E W) : LW P n ops (ot K Q) [] E W := jC (jb h)
theorem lr (h : LW P n l.toArray (ot (fun E W => CW P n c Q E W) Q) l E W) : LW P n ops (ot (fun E W => CW P n (.seq (.region id l.toArray false) c) Q E W) Q') [] E W := jC (jb (jm (jj h)))
theorem lS (h : LW P n l.toArray (ot (fun E W => CW P n c (ot (fun E W => CW P n z Q E W) Q) E W) (ot (fun E W => CW P n z Q E W) Q)) l E W) : LW P n ops (ot (fun E W => CW P n (.seq (.seq (.region id l.toArray false) c) z) Q E W) Q') [] E W := jC (jb (jm (jm (jj h))))
theorem bg (h : LW P n l.toArray (ot (fun E W => CW P n c (uL id2 Q) E W) (uL id2 Q)) l E W) : CW P n (.block id2 (.seq (.region id l.toArray false) c)) Q E W := lc (jm (jj h))
theorem kg (h : LW P n l.toArray (ot (fun E W => CW P n c Q E W) Q) l E W) : CW P n .skip (ot (fun E W => CW P n (.seq (.region id l.toArray false) c) Q E W) Q') E W := jJ (jb (jm (jj h)))
theorem kS (h : LW P n l.toArray (ot (fun E W => CW P n c (ot (fun E W => CW P n z Q E W) Q) E W) (ot (fun E W => CW P n z Q E W) Q)) l E W) : CW P n .skip (ot (fun E W => CW P n (.seq (.seq (.region id l.toArray false) c) z) Q E W) Q') E W := jJ (jb (jm (jm (jj h))))
theorem lt (h : Q .ret E W) : LW P n ops (ot (fun E W => CW P n .ret Q E W) Q') [] E W := jC (jb (jz h))
theorem kn (h : K E W) : CW P n .skip (ot K Q) E W := jJ (jb h)
end
end
theorem ST.RS {α : Type} {dd : Bool} {F : Nat → Prop} {w W : World} {μ : jw} {R Y : List (Nat × Obj)} {e' : TypeId} {enc : α → List Value} {k : Nat} {v : Value} {l : List α} (d : ST dd F w W μ (R ++ Y)) (h : oA e' enc k v l R) (hk : ∀ x, (enc x).length = k) : ∃ μ', ST dd F w W μ' Y ∧ js μ μ' ∧ Lo F w μ μ' ∧ Sl (Pl enc) k μ' v l := by
 obtain ⟨μ', g, a2, a3, a4⟩ := ST.xw d
 refine ⟨μ', g, a2, a3, (h.DJ hk).mono (Pl.mono _) (fun b o a => ?_)⟩
 unfold Aj at a
 cases c : List.find? (fun p => p.1 == b) R with
 | none => rw [c] at a; cases a
 | some q =>
  rw [c] at a
  have h1 := List.mem_of_find?_eq_some c
  have i := List.find?_some c
  obtain rfl : q.2 = o := by simpa using a
  obtain rfl : q.1 = b := by simpa using i
  exact a4 _ _ h1
section
variable {P : Program} {E : Nat → Value} {W : World} {d : Option Nat} {ty : TypeId} {pos : String} {af : Array Edge} {g : Option (Nat × Bool)}
theorem QO {tx tv : TypeId} {x y : Operand} {k : IntKind} {a b : Int} (c : iZ E x = .int k a) (h : iZ E y = .int k b) :
  kq P E ⟨d, .binOp .andNot tx x y tv, ty, pos, af, g⟩ W (.int k (k.wrap (BitVec.ofInt k.bits a &&& ~~~ BitVec.ofInt k.bits b).toNat)) W := by
 show (do let r ← (do eqGuard .andNot tx x y (iZ E x) (iZ E y); binOp .andNot tx (iZ E x) (iZ E y)); pure (.value r) : Sem Next).run P W = _
 rw [c, h]
 simp [eqGuard, binOp, Op.intBits]
end
def Sz {β : Type} (P : Program) (fv : Value) (μ : jw) (Rl : py β) (pm : β × β → Option Int) : Prop :=
 ∃ f caps, fv = .func (.func f) #[] caps ∧ (∀ args w, (callFunc f args).run P w = .ok (.enter f args) w) ∧ ∀ W x y z r, js μ (hp W) → Rl (hp W) [y] x.1 → Rl (hp W) [z] x.2 → pm x = some r → jv true P f ([y, z] ++ caps.toList) W (.int .i64 r)
open Classical in
noncomputable def Ew {β : Type} (cf : β × β → Option Int) (l : List β) : Option (List β) := if l.Nodup then wg cf l else none
theorem oA.MM {α : Type} {dd : Bool} {w W : World} {μ : jw} {L R : List (Nat × Obj)} {e : TypeId} {enc : α → List Value} {k : Nat} {v : Value} {l : List α} (h : oA e enc k v l R) (c : ST dd jD w W μ L) (i : ∀ p, p ∈ R → p ∈ L) : Fr w.heap.size v := by
 rcases h with ⟨rfl, rfl, rfl⟩ | ⟨g, off, cap, a, rfl, rfl, h1, j, m, n⟩
 ·exact Fr.nil _
 ·intro b d
  simp [Value.ownBlock] at d
  subst d
  rcases (c.box g (.cells a e (0, 0)) (i _ (aC.2 rfl))).2.2 with h | h
  ·exact h
  ·exact h.elim
theorem EN.mono {α β : Type} {P : Program} {fv : Value} {μ μ0 : jw} {a : α → List Value} {c : β → Value} {pm : α → Option β} (h : EN P fv μ a c pm) (i : js μ μ0) : EN P fv μ0 a c pm := by
 obtain ⟨f, caps, h1, d, g⟩ := h
 exact ⟨f, caps, h1, d, fun W x r h => g W x r (i.trans h)⟩
theorem EN.form {α β : Type} {P : Program} {fv : Value} {μ : jw} {c : α → List Value} {d : β → Value} {pm : α → Option β} (h : EN P fv μ c d pm) : ∃ f a b, fv = .func f a b := let ⟨f, b, h, _⟩ := h; ⟨_, _, b, h⟩
theorem RU {P : Program} {E : Nat → Value} {d : Option Nat} {ty : TypeId} {pos : String} {af : Array Edge} {g : Option (Nat × Bool)} {F : Nat → Prop} {w W : World} {μ μ0 : jw} {L : List (Nat × Obj)} {dd : Bool} {α β : Type} {K : Value → World → Prop} {fv : Value} {c : α → List Value} {k : β → Value} {pm : α → Option β} {i : Operand} {ax : Array Operand} {ats : Array TypeId} (x : α) {r : β} (a : ST dd F w W μ L) (s : EN P fv μ0 c k pm) (u : js μ0 μ) (t : iZ E i = fv) (q : ax.map (iZ E) ++ (#[] : Array Value) = (c x).toArray) (hm : pm x = some r) (h : ∀ W', ST dd F w W' μ L → K (k r) W') : lD P E ⟨d, .call ⟨.value i, ax, ats⟩, ty, pos, af, g⟩ W K := by
 obtain ⟨f, caps, rfl, m, n⟩ := s
 have j : ax.map (iZ E) = (c x).toArray := by simpa using q
 refine .inr (.inr ⟨f, (c x ++ caps.toList).toArray, ?_, bp ((n W x r (u.trans a.jf) hm).kw (dd := dd)) (fun _ _ ⟨o, p⟩ => ⟨_, o, h _ (a.Ej p)⟩)⟩)
 show (do let d ← resolve (iZ E) ⟨.value i, ax, ats⟩ ty; invoke d.target d.args : Sem Next).run P W = _
 simp only [resolve, t, Deferred.ofValue, aZ, bP, aN, invoke, j, m]
 congr 2
 simp
def FE {S : Type} (rd : S → List Int) : Int ⊕ S → Int
 | .inl x => x
 | .inr r => if (rd r).length > 0 then 13 else 0
def LI (P : Program) (fn : Func) (R : Ending → World → Prop) : mo
 | .normal, E, W | .ret, E, W => ∃ v, (∀ tmps : Array Value, (∀ t, tmps.getD t undef = E t) → (results fn tmps).run P W = .ok v W) ∧ R (.returned v) W
 | .panic c, _, W => R (.panicked c) W
 | _, _, _ => False
theorem sZ {P : Program} {fn : Func} {R : Ending → World → Prop} {E : Nat → Value} {W : World} (h : wE P fn R .ret E W) : LI P fn R .ret E W := h
theorem oL {P : Program} {f : FuncId} {fn : Func} {c : Code} {args : List Value} {w : World} {R : Ending → World → Prop} {n : Nat} (p : P.funcs[f]? = some fn) (o : fn.body = some c) (s : fn.ntmps = n) (q : args.length ≤ n) (h : CW P n c (LI P fn R) (vO args) w) : Calls P f args.toArray w R := by
 refine calls_of_wp p o ?_
 have j : Ag n { tmps := args.toArray ++ Array.replicate (fn.ntmps - args.toArray.size) undef, defers := [] } (vO args) := by
  refine ⟨by simp; omega, rfl, fun t => ?_⟩
  simp only [vO, bM, ei, dT, eA, bJ, dU]
  by_cases m : t < args.length
  ·rw [aq m]
  ·rw [ap m, bQ (by omega)]
   split <;> simp
 refine eC (h _ j) (fun e a u g => ?_)
 cases e with
 | normal =>
  obtain ⟨E, d, v, k, i⟩ := g
  exact ⟨d.2.1, v, k _ d.2.2, i⟩
 | ret =>
  obtain ⟨E, d, v, k, i⟩ := g
  exact ⟨d.2.1, v, k _ d.2.2, i⟩
 | exit id => obtain ⟨E, d, h⟩ := g; exact h.elim
 | goto l => obtain ⟨E, d, h⟩ := g; exact h.elim
 | panic c => exact g
 | outgrown => exact g.elim
def Ip (P : Program) (E : Nat → Value) (o : Oper) (W : World) (X : List PanicEntry → World → Prop) : Prop :=
 (∃ v W', (execOp (iZ E) o).run P W = .halt (.panic v) W' ∧ X [{ v := v, recovered := false }] W') ∨
 (∃ f args, (execOp (iZ E) o).run P W = .ok (.enter f args) W ∧ Calls P f args W fun e a => ∃ c, e = .panicked c ∧ X c a)
theorem Ip.wp {P : Program} {n : Nat} {E : Nat → Value} {o : Oper} {W : World} {X : List PanicEntry → World → Prop} (h : Ip P E o W X) {a : Act} (g : Ag n a E) {K : Exit → Act → World → Prop} {J : Act → World → Prop} (hk : ∀ c w, X c w → K (.panic c) a w) : o.wp P a W J K := by
 unfold Oper.wp
 rw [g.eval]
 rcases h with ⟨v, W', h1, d⟩ | ⟨f, args, h1, d⟩
 ·rw [h1]; exact hk _ _ d
 ·rw [h1, cR]
  refine bp d ?_
  rintro e j ⟨c, rfl, i⟩
  exact hk _ _ i
section
variable {P : Program} {n : Nat} {Q : mo} {E : Nat → Value} {W : World} {ops : Array Oper} {rest : List Oper} {S : Array Bool → World → Prop} {fuel : Nat} {listed : Array Bool}
theorem px {o : Oper} (hw : lq n ops E o) (h : Ip P E o W fun c w => Q (.panic c) E0 w) : LW P n ops Q (o :: rest) E W := fun a d => by
 unfold wpList
 rw [aq (hw.of d)]
 refine .inl ?_
 exact h.wp d (fun c w g => ⟨d.2.1, g⟩)
theorem Qw {o : Oper} (i : Nat) (p : ops[i]? = some o) (g : Region.ready .any ops listed = [i]) (hw : lq n ops E o) (h : Ip P E o W fun c w => Q (.panic c) E0 w) : PX P n ops Q S (fuel + 1) listed E W := fun s a d => by
 refine ⟨fun m => (by rw [m] at g; cases g), fun j k => ?_⟩
 rw [g] at k
 obtain rfl := aC.1 k
 unfold wpOp
 simp only [p]
 rw [aq (hw.of d)]
 refine .inl ?_
 exact h.wp d (fun c w q => ⟨d.2.1, q⟩)
end
def kP {R : Type} (dd : Bool) (w : World) (μ0 : jw) (L0 : List (Nat × Obj)) (s : Int ⊕ R) (K : R → Value → List (Nat × Obj) → jw → Prop) (X : Int → List PanicEntry → List (Nat × Obj) → jw → Prop) : Ending → World → Prop := fun e a =>
 match s with
 | .inl x => ∃ c L1 μ1, e = .panicked c ∧ pX dd L0 L1 w a ∧ js μ0 μ1 ∧ Lo (keys L0) w μ0 μ1 ∧ js μ1 (pY a L1) ∧ X x c L1 μ1
 | .inr r => ∃ v L1 μ1, e = .returned v ∧ pX dd L0 L1 w a ∧ js μ0 μ1 ∧ Lo (keys L0) w μ0 μ1 ∧ js μ1 (pY a L1) ∧ K r v L1 μ1
def DL (dd : Bool) (P : Program) (f : FuncId) (args : List Value) (w : World) (μ0 : jw) (L0 : List (Nat × Obj)) (X : List PanicEntry → List (Nat × Obj) → jw → Prop) : Prop :=
 Calls P f args.toArray w fun e a => ∃ c L1 μ1, e = .panicked c ∧ pX dd L0 L1 w a ∧ js μ0 μ1 ∧ Lo (keys L0) w μ0 μ1 ∧ js μ1 (pY a L1) ∧ X c L1 μ1
def jH {R : Type} (dd : Bool) (P : Program) (f : FuncId) (args : List Value) (w : World) (μ0 : jw) (L0 : List (Nat × Obj)) (s : Int ⊕ R) (K : R → Value → List (Nat × Obj) → jw → Prop) (X : Int → List PanicEntry → List (Nat × Obj) → jw → Prop) : Prop :=
 Calls P f args.toArray w (kP dd w μ0 L0 s K X)
theorem jH.r {R : Type} {dd : Bool} {P : Program} {f : FuncId} {args : List Value} {w : World} {μ0 : jw} {L0 : List (Nat × Obj)} {r : R} {K : R → Value → List (Nat × Obj) → jw → Prop} {X : Int → List PanicEntry → List (Nat × Obj) → jw → Prop} (h : jH dd P f args w μ0 L0 (.inr r) K X) : oq dd P f args w μ0 L0 (K r) := h
theorem jH.l {R : Type} {dd : Bool} {P : Program} {f : FuncId} {args : List Value} {w : World} {μ0 : jw} {L0 : List (Nat × Obj)} {x : Int} {K : R → Value → List (Nat × Obj) → jw → Prop} {X : Int → List PanicEntry → List (Nat × Obj) → jw → Prop} (h : jH dd P f args w μ0 L0 (.inl x : Int ⊕ R) K X) : DL dd P f args w μ0 L0 (X x) := h
theorem kZ {K : (Nat → Value) → World → Prop} {Q : mo} {c : List PanicEntry} {E : Nat → Value} {W : World} (h : Q (.panic c) E W) : ot K Q (.panic c) E W := h
theorem ua {id : Nat} {Q : mo} {c : List PanicEntry} {E : Nat → Value} {W : World} (h : Q (.panic c) E W) : uL id Q (.panic c) E W := h
theorem mR {P : Program} {fn : Func} {R : Ending → World → Prop} {c : List PanicEntry} {E : Nat → Value} {W : World} (h : R (.panicked c) W) : LI P fn R (.panic c) E W := h
section
variable {P : Program} {W : World} {E : Nat → Value} {d : Option Nat} {ty : TypeId} {pos : String} {af : Array Edge} {g : Option (Nat × Bool)} {F : Nat → Prop} {w : World} {μ : jw} {L : List (Nat × Obj)} {dd : Bool}
theorem lN {X : List PanicEntry → World → Prop} {X' : List PanicEntry → List (Nat × Obj) → jw → Prop} {f : FuncId} {fv : Operand} {ax : Array Operand} {ats : Array TypeId} {caps : Array Value} {args : List Value} (L0 L2 : List (Nat × Obj)) (a : ST dd F w W μ L) (i : L.Perm (L0 ++ L2)) (z : iZ E fv = .func (.func f) #[] caps) (he : ∀ args w, (callFunc f args).run P w = .ok (.enter f args) w) (u : ax.map (iZ E) ++ (#[] : Array Value) = args.toArray) (y : By L0 W → (L0.map (·.1)).Nodup → js μ (pY W L0) → (∀ b o, (b, o) ∈ L2 → pY W L0 b = some o) → DL dd P f (args ++ caps.toList) W μ L0 X') (h : ∀ W' c μ' L1, ST dd F w W' μ' (L1 ++ L2) → js μ μ' → Lo F w μ μ' → X' c L1 μ' → X c W') : Ip P E ⟨d, .call ⟨.value fv, ax, ats⟩, ty, pos, af, g⟩ W X := by
 have j : ax.map (iZ E) = args.toArray := by simpa using u
 refine .inr ⟨f, (args ++ caps.toList).toArray, Hq z he (by rw [j]; simp), bp (y (a.held i) (a.Od i) (a.OG i) (a.G1 i)) (fun _ W' ⟨v, L1, μ1, h1, m, n, k, p, s⟩ => ⟨v, h1, h W' v μ1 L1 ((a.perm i).OW m k p) n (fun b x t => k b (cE x a.size) (fun ⟨o, A⟩ => by
  rcases ((a.perm i).box b o (aW _ A)).2.2 with q | q
  ·omega
  ·exact t q)) s⟩)⟩
end
section
variable {P : Program} {W : World} {E : Nat → Value} {d : Option Nat} {ty : TypeId} {pos : String} {af : Array Edge} {g : Option (Nat × Bool)}
def uC (t : TypeId) (b : Nat) (x : Int) : Value := .iface t (.agg #[.pointer (some ⟨b, 0, none⟩), .int .i64 x])
theorem PN {t : TypeId} {x : Operand} {v : Value} {u : TypeDesc} (a : P.underlying t = some u) (hu : ∀ q, u ≠ .interface q) (c : iZ E x = v) : kq P E ⟨d, .makeInterface t x, ty, pos, af, g⟩ W (.iface t v) W := by
 show (do let r ← Instr.makeInterface t (iZ E x); pure (.value r) : Sem Next).run P W = _
 rw [c]
 unfold Instr.makeInterface
 simp only [aZ, ar a, aN]
 cases u <;> simp_all
theorem Pv {X : List PanicEntry → World → Prop} {x : Operand} {t : TypeId} {v : Value} (a : iZ E x = .iface t v) (h : X [{ v := .iface t v, recovered := false }] W) : Ip P E ⟨d, .panic x, ty, pos, af, g⟩ W X := by
 refine .inl ⟨.iface t v, W, ?_, h⟩
 show (do let r ← Instr.panic (iZ E x); pure (.value r) : Sem Next).run P W = _
 rw [a]
 simp [Instr.panic]
end
theorem kP.li {R : Type} {dd : Bool} {w : World} {μ0 : jw} {L0 : List (Nat × Obj)} {x : Int} {K : R → Value → List (Nat × Obj) → jw → Prop} {X : Int → List PanicEntry → List (Nat × Obj) → jw → Prop} {e : Ending} {a : World} (h : ∃ c L1 μ1, e = .panicked c ∧ pX dd L0 L1 w a ∧ js μ0 μ1 ∧ Lo (keys L0) w μ0 μ1 ∧ js μ1 (pY a L1) ∧ X x c L1 μ1) : kP dd w μ0 L0 (.inl x : Int ⊕ R) K X e a := h
theorem kP.ri {R : Type} {dd : Bool} {w : World} {μ0 : jw} {L0 : List (Nat × Obj)} {r : R} {K : R → Value → List (Nat × Obj) → jw → Prop} {X : Int → List PanicEntry → List (Nat × Obj) → jw → Prop} {e : Ending} {a : World} (h : ∃ v L1 μ1, e = .returned v ∧ pX dd L0 L1 w a ∧ js μ0 μ1 ∧ Lo (keys L0) w μ0 μ1 ∧ js μ1 (pY a L1) ∧ K r v L1 μ1) : kP dd w μ0 L0 (.inr r : Int ⊕ R) K X e a := h
theorem Lh {P : Program} {fn : Func} {R : Ending → World → Prop} {E : Nat → Value} {W : World} (h : wE P fn R .normal E W) : LI P fn R .normal E W := h
theorem DL.kw {dd : Bool} {P : Program} {f : FuncId} {args : List Value} {w : World} {μ0 : jw} {L0 : List (Nat × Obj)} {X : List PanicEntry → List (Nat × Obj) → jw → Prop} (h : DL true P f args w μ0 L0 X) : DL dd P f args w μ0 L0 X :=
 bp h fun _ _ ⟨v, L1, μ1, h1, a, c⟩ => ⟨v, L1, μ1, h1, a.kw, c⟩
def Bb (D : List Deferred) (n : Nat) (a : Act) (E : Nat → Value) : Prop := a.tmps.size = n ∧ a.defers = D ∧ ∀ t, a.tmps.getD t undef = E t
section
variable {D : List Deferred} {n : Nat} {a : Act} {E : Nat → Value}
theorem Bb.eval (h : Bb D n a E) : a.eval = iZ E := by
 funext x
 cases x with
 | tmp t => exact h.2.2 t
 | const v => rfl
 | global g => rfl
 | func f => rfl
theorem Bb.put (h : Bb D n a E) {d : Nat} (i : d < n) (v : Value) : Bb D n (a.put (some d) v) (lz E d v) := by
 refine ⟨by simp [Act.put, h.1], h.2.1, fun t => ?_⟩
 have g := h.2.2 t
 simp only [Act.put, lz]
 by_cases c : t = d
 ·subst c
  simp [h.1, i]
 ·have : ¬ d = t := fun e => c e.symm
  rw [ap c, ← g]
  simp [bM, this]
theorem Bb.tN (h : Bb D n a E) (v : Value) : Bb D n (a.put none v) E := h
theorem Bb.yield (h : Bb D n a E) {ops : Array Oper} {j t : Nat} {b : Bool} (d : (ops[j]?).bind (·.dst) = some t) (i : t < n) (k : E t = .bool b) : yielded ops a.tmps j = some b := by
 have c := h.2.2 t
 have g : a.tmps[t]? = some (E t) := by
  rw [← c]
  simp [bM, h.1, i]
 simp [yielded, d, g, k]
end
def Mu (D : List Deferred) (n : Nat) (Q : mo) : Exit → Act → World → Prop
 | .panic c, a, w => a.defers = D ∧ a.tmps.size = n ∧ Q (.panic c) (fun t => a.tmps.getD t undef) w
 | .outgrown, _, _ => False
 | e, a, w => ∃ E, Bb D n a E ∧ Q e E w
def CO (D : List Deferred) (P : Program) (n : Nat) (c : Code) (Q : mo) (E : Nat → Value) (W : World) : Prop := ∀ a, Bb D n a E → c.wp P (Mu D n Q) a W
def Ac (D : List Deferred) (P : Program) (n : Nat) (ops : Array Oper) (Q : mo) (l : List Oper) (E : Nat → Value) (W : World) : Prop := ∀ a, Bb D n a E → wpList P ops (Mu D n Q) l a W
section
variable {D : List Deferred} {P : Program} {n : Nat} {Q : mo} {E : Nat → Value} {W : World} {c x y : Code} {ops : Array Oper} {rest : List Oper} {o : Oper}
theorem zP (h : CO D P n x (ot (fun E W => CO D P n y Q E W) Q) E W) : CO D P n (.seq x y) Q E W := fun a g =>
 wp_seq (eC (h a g) (fun e d j h => by
  cases e with
  | normal => obtain ⟨E', c, i⟩ := h; exact i d c
  | _ => exact h))
theorem Oq (h : Q .normal E W) : CO D P n .skip Q E W := fun _ a => wp_skip ⟨E, a, h⟩
theorem KU (h : Q .ret E W) : CO D P n .ret Q E W := fun _ a => wp_ret ⟨E, a, h⟩
theorem NK {co : Operand} {b : Bool} (d : iZ E co = .bool b) (i : b = true → CO D P n x Q E W) (g : b = false → CO D P n y Q E W) : CO D P n (.cond co x y) Q E W := fun a c => by
 refine wp_cond_split (t := b) (by rw [c.eval]; exact d) (fun h => i h a c) (fun h => g h a c)
theorem JS {co : Operand} (a : iZ E co = .bool true) (h : CO D P n x Q E W) : CO D P n (.cond co x y) Q E W := NK a (fun _ => h) (fun h => by cases h)
theorem xZ {id : Nat} {l : List Oper} (h : Ac D P n l.toArray Q l E W) : CO D P n (.region id l.toArray false) Q E W := fun a c => wp_region_lit (h a c)
theorem BN (h : Q .normal E W) : Ac D P n ops Q [] E W := fun _ a => wpList_nil ⟨E, a, h⟩
theorem lq.Jj {a : Act} (h : lq n ops E o) (d : Bb D n a E) : Region.wanted o (yielded ops a.tmps) = true := by
 rcases h with h | ⟨j, want, t, g, i, k, c⟩
 ·simp [Region.wanted, h]
 ·simp [Region.wanted, g, d.yield i k c]
theorem Kl {d : Nat} {v : Value} {W' : World} (hw : lq n ops E o) (g : o.dst = some d) (i : d < n) (j : (execOp (iZ E) o).run P W = .ok (.value v) W') (h : Ac D P n ops Q rest (lz E d v) W') : Ac D P n ops Q (o :: rest) E W := fun a c => by
 unfold wpList
 rw [aq (hw.Jj c)]
 refine .inl ?_
 unfold Oper.wp
 rw [c.eval, j, cQ, g]
 exact h _ (c.put i v)
theorem MQ {W' : World} (hw : lq n ops E o) (d : o.dst = none) (g : (execOp (iZ E) o).run P W = .ok .skip W') (h : Ac D P n ops Q rest E W') : Ac D P n ops Q (o :: rest) E W := fun a c => by
 unfold wpList
 rw [aq (hw.Jj c)]
 refine .inl ?_
 unfold Oper.wp
 rw [c.eval, g, dC, d]
 exact h _ (c.tN _)
theorem MT {f : FuncId} {args : Array Value} {d : Nat} (hw : lq n ops E o) (i : o.dst = some d) (k : d < n) (m : (execOp (iZ E) o).run P W = .ok (.enter f args) W) (h : Calls P f args W fun e g => ∃ v, e = .returned v ∧ Ac D P n ops Q rest (lz E d v) g) : Ac D P n ops Q (o :: rest) E W := fun a c => by
 unfold wpList
 rw [aq (hw.Jj c)]
 refine .inl ?_
 unfold Oper.wp
 rw [c.eval, m, cR]
 refine h.mono ?_
 rintro e g ⟨v, rfl, j⟩
 simp only [i]
 exact j _ (c.put k v)
theorem Sy {o : Oper} {dd : Nat} (hw : lq n ops E o) (g : o.dst = some dd) (i : dd < n) (h : lD P E o W fun v W' => Ac D P n ops Q rest (lz E dd v) W') : Ac D P n ops Q (o :: rest) E W := by
 rcases h with ⟨v, W', h1, c⟩ | ⟨W', h1, c⟩ | ⟨f, args, h1, c⟩
 ·exact Kl hw g i h1 c
 ·intro a d
  unfold wpList
  rw [aq (hw.Jj d)]
  refine .inl ?_
  unfold Oper.wp
  rw [d.eval, h1, dC, g]
  exact c _ (d.put i _)
 ·exact MT hw g i h1 c
theorem NB {o : Oper} (hw : lq n ops E o) (g : o.dst = none) (h : lD P E o W fun _ W' => Ac D P n ops Q rest E W') : Ac D P n ops Q (o :: rest) E W := by
 rcases h with ⟨v, W', h1, d⟩ | ⟨W', h1, d⟩ | ⟨f, args, h1, d⟩
 ·intro a c
  unfold wpList
  rw [aq (hw.Jj c)]
  refine .inl ?_
  unfold Oper.wp
  rw [c.eval, h1, cQ, g]
  exact d _ (c.tN _)
 ·exact MQ hw g h1 d
 ·intro a c
  unfold wpList
  rw [aq (hw.Jj c)]
  refine .inl ?_
  unfold Oper.wp
  rw [c.eval, h1, cR]
  refine bp d ?_
  rintro e j ⟨v, rfl, i⟩
  simp only [g]
  exact i _ (c.tN _)
theorem yD {dd : Nat} {v : Value} (hw : lq n ops E o) (a : o.dst = some dd) (c : dd < n) (d : kq P E o W v W) (h : Ac D P n ops Q rest (lz E dd v) W) : Ac D P n ops Q (o :: rest) E W := Kl hw a c d h
theorem Sq (hw : lq n ops E o) (h : Ip P E o W fun c w => ∀ E', (∀ t, E' t = E t) → Q (.panic c) E' w) : Ac D P n ops Q (o :: rest) E W := fun a d => by
 unfold wpList
 rw [aq (hw.Jj d)]
 refine .inl ?_
 unfold Oper.wp
 rw [d.eval]
 rcases h with ⟨v, W', h1, g⟩ | ⟨f, args, h1, g⟩
 ·rw [h1]; exact ⟨d.2.1, d.1, g _ d.2.2⟩
 ·rw [h1, cR]
  refine bp g ?_
  rintro e j ⟨c, rfl, i⟩
  exact ⟨d.2.1, d.1, i _ d.2.2⟩
end
section
variable {P : Program} {n : Nat} {E : Nat → Value} {W : World} {c y : Code} {a : Act} {cs : List Frame} {Q : Exit → Act → List Frame → World → Prop}
theorem RD (h : CW P n c (fun e E W => e = .normal ∧ ∀ a, Ag n a E → y.wpS P Q a cs W) E W) (i : Ag n a E) : (Code.seq c y).wpS P Q a cs W :=
 wpS_seq (wpS_of_wp (eC (h a i) (fun e g k h => by
  cases e with
  | normal => obtain ⟨E', d, _, j⟩ := h; exact j g d
  | panic c => exact absurd h.2.1 (by simp)
  | outgrown => exact h.elim
  | _ => obtain ⟨E', d, h1, _⟩ := h; cases h1)))
theorem KA {fn : Func} {g : Frame} {j : List Frame} {R : Ending → FrameMode → World → Prop} {u : FrameMode} (k : fn.results = #[]) (h : CW P n c (fun e E W => (e = .normal ∨ e = .ret) ∧ R (.returned (.tuple #[])) u W) E W) (m : Ag n a E) : c.wpS P (bodyPostS P fn g j R) a ({ g with mode := u } :: j) W :=
 wpS_of_wp (eC (h a m) (fun e o p h => by
  cases e with
  | normal => obtain ⟨E', d, _, i⟩ := h; exact ⟨d.2.1, u, rfl, .tuple #[], results_none k _ _ _, i⟩
  | ret => obtain ⟨E', d, _, i⟩ := h; exact ⟨d.2.1, u, rfl, .tuple #[], results_none k _ _ _, i⟩
  | panic c => rcases h.2.1 with h | h <;> cases h
  | outgrown => exact h.elim
  | _ => obtain ⟨E', d, h1, _⟩ := h; rcases h1 with h | h <;> cases h))
theorem EO {id d d2 : Nat} {c g : Oper} {cs' : List Frame} {v : Value} (p : d < n) (o : d2 < n) (h1 : c.guard = none) (q : g.guard = none) (k : c.dst = some d) (m : g.dst = some d2) (t : ∀ a : Act, (execOp a.eval c).run P W = .ok .recover W) (hm : ∀ E : Nat → Value, E d = v → kq P E g W v W) (j : recoverD cs = some (v, cs') ∨ recoverD cs = none ∧ v = .nilIface ∧ cs' = cs) (i : Ag n a E) (h : ∀ a, Ag n a (lz (lz E d v) d2 v) → Q .normal a cs' W) : (Code.region id #[c, g] false).wpS P Q a cs W := by
 refine wpS_region ?_
 have s : List.range (#[c, g] : Array Oper).size = [0, 1] := rfl
 rw [s]
 have key : ∀ a : Act, Ag n a (lz E d v) → wpOpsS P #[c, g] Q [1] a cs' W := fun a i => by
  unfold wpOpsS
  simp only [show (#[c, g] : Array Oper)[1]? = some g from rfl]
  rw [aq (by simp [Region.wanted, q])]
  have := hm (lz E d v) (by simp [lz])
  unfold kq at this
  rw [i.eval, this]
  simp only [cQ, m]
  unfold wpOpsS
  exact h _ (i.put o v)
 unfold wpOpsS
 simp only [show (#[c, g] : Array Oper)[0]? = some c from rfl]
 rw [aq (by simp [Region.wanted, h1]), t]
 simp only
 rcases j with j | ⟨j, rfl, rfl⟩
 ·rw [j]
  simp only [k]
  exact key _ (i.put p v)
 ·rw [j]
  simp only [k]
  exact key _ (i.put p _)
theorem Ja {args : List Value} {fn : Func} {n : Nat} (c : fn.ntmps = n) (h : args.length ≤ n) : Ag n { tmps := args.toArray ++ Array.replicate (fn.ntmps - args.toArray.size) undef, defers := [] } (vO args) := by
 refine ⟨by simp; omega, rfl, fun t => ?_⟩
 simp only [vO, bM, ei, dT, eA, bJ, dU]
 by_cases a : t < args.length
 ·rw [aq a]
 ·rw [ap a, bQ (by omega)]
  split <;> simp
end
section
variable {P : Program} {E : Nat → Value} {W : World} {d : Option Nat} {x y : Operand} {tx tv ty : TypeId} {pos : String} {af : Array Edge} {g : Option (Nat × Bool)} {ms : List (String × TypeId)}
theorem GU {t tx : TypeId} {q} {v : Value} (dd : Nat) (a : P.underlying tx = some (.interface q)) (W : World) : (Op.equalIn (dd + 1) tx (.iface t v) .nilIface).run P W = .ok false W := by
 simp [Op.equalIn, ar a]
theorem Gs {tx : TypeId} {q} (dd : Nat) (a : P.underlying tx = some (.interface q)) (W : World) : (Op.equalIn (dd + 1) tx .nilIface .nilIface).run P W = .ok true W := by
 simp [Op.equalIn, ar a]
theorem E3 {tx e : TypeId} {k : Nat} {p : Addr} (dd : Nat) (c : P.underlying tx = some (.pointer e)) (a : ∀ w, (sizeOf e).run P w = .ok (k + 1) w) (W : World) : (Op.equalIn (dd + 1) tx (.pointer (some p)) (.pointer (some p))).run P W = .ok true W := by
 simp [Op.equalIn, ar c, a W, run_sameAddr_same]
theorem Qk {q} {t : TypeId} {v : Value} (c : P.underlying tx = some (.interface q)) (h : iZ E x = .iface t v) (i : iZ E y = .nilIface) : kq P E ⟨d, .binOp .eql tx x y tv, ty, pos, af, g⟩ W (.bool false) W := by
 show (do let r ← (do eqGuard .eql tx x y (iZ E x) (iZ E y); binOp .eql tx (iZ E x) (iZ E y)); pure (.value r) : Sem Next).run P W = _
 rw [h, i]
 have a := GU (t := t) (v := v) 9999 c W
 simp [eqGuard, binOp, Op.equal, Op.maxDepth, a]
theorem PY {q} {v : Value} (c : P.underlying tx = some (.interface q)) (h : iZ E x = .nilIface) (i : iZ E (.const v) = .nilIface) : kq P E ⟨d, .binOp .eql tx x (.const v) tv, ty, pos, af, g⟩ W (.bool true) W := by
 show (do let r ← (do eqGuard .eql tx x (.const v) (iZ E x) (iZ E (.const v)); binOp .eql tx (iZ E x) (iZ E (.const v))); pure (.value r) : Sem Next).run P W = _
 rw [h, i]
 have a := Gs 9999 c W
 simp [eqGuard, binOp, Op.equal, Op.maxDepth, a]
theorem J5 {e : TypeId} {k : Nat} {p : Addr} (h : P.underlying tx = some (.pointer e)) (c : ∀ w, (sizeOf e).run P w = .ok (k + 1) w) (i : iZ E x = .pointer (some p)) (j : iZ E y = .pointer (some p)) : kq P E ⟨d, .binOp .neq tx x y tv, ty, pos, af, g⟩ W (.bool false) W := by
 show (do let r ← (do eqGuard .neq tx x y (iZ E x) (iZ E y); binOp .neq tx (iZ E x) (iZ E y)); pure (.value r) : Sem Next).run P W = _
 rw [i, j]
 have a := E3 (p := p) 9999 h c W
 simp [eqGuard, binOp, Op.equal, Op.maxDepth, a]
theorem LC {t : TypeId} {v : Value} {u : TypeDesc} (a : P.underlying t = some u) (hu : ∀ q, u ≠ .interface q) (c : iZ E x = .iface t v) : kq P E ⟨d, .typeAssert x tx t true, ty, pos, af, g⟩ W (.tuple #[v, .bool true]) W := by
 show (do let r ← Instr.typeAssert (iZ E x) tx t true; pure (.value r) : Sem Next).run P W = _
 rw [c]
 unfold Instr.typeAssert
 simp only [aZ, ar a, aN]
 cases u <;> simp_all
end
def Pc (n : Nat) (Q : List Deferred → mo) (e : Exit) (a : Act) (w : World) : Prop := ∃ D, Mu D n (Q D) e a w
def KF (P : Program) (n : Nat) (c : Code) (Q : List Deferred → mo) (E : Nat → Value) (W : World) : Prop := ∀ a, Ag n a E → c.wp P (Pc n Q) a W
def O2 (P : Program) (n : Nat) (ops : Array Oper) (Q : List Deferred → mo) (l : List Oper) (E : Nat → Value) (W : World) : Prop := ∀ a, Ag n a E → wpList P ops (Pc n Q) l a W
def RN (P : Program) (fn : Func) (R : Ending → World → Prop) (D : List Deferred) : mo
 | .normal, E, W | .ret, E, W => ∀ tmps : Array Value, (∀ t, tmps.getD t undef = E t) → Leaves P fn tmps R D .returning W
 | .panic c, E, W => ∀ tmps : Array Value, (∀ t, tmps.getD t undef = E t) → Leaves P fn tmps R D (.panicking c) W
 | _, _, _ => False
section
variable {P : Program} {n : Nat} {Q : List Deferred → mo} {E : Nat → Value} {W : World} {c x y : Code} {ops : Array Oper} {rest : List Oper} {o : Oper}
theorem KE (h : CW P n x (fun e E W => e = .normal ∧ KF P n y Q E W) E W) : KF P n (.seq x y) Q E W := fun a i =>
 wp_seq (eC (h a i) (fun e g k h => by
  cases e with
  | normal => obtain ⟨E', d, _, j⟩ := h; exact j g d
  | panic c => exact absurd h.2.1 (by simp)
  | outgrown => exact h.elim
  | _ => obtain ⟨E', d, h1, _⟩ := h; cases h1))
theorem Rx (h : KF P n x (fun D => ot (fun E W => CO D P n y (Q D) E W) (Q D)) E W) : KF P n (.seq x y) Q E W := fun a g =>
 wp_seq (eC (h a g) (fun e d j ⟨D, h⟩ => by
  cases e with
  | normal => obtain ⟨E', c, i⟩ := h; exact eC (i d c) (fun e a w h => ⟨D, h⟩)
  | _ => exact ⟨D, h⟩))
theorem LN {id : Nat} {l : List Oper} (h : O2 P n l.toArray Q l E W) : KF P n (.region id l.toArray false) Q E W := fun a c => wp_region_lit (h a c)
theorem Su {dd : Nat} {v : Value} (hw : lq n ops E o) (g : o.dst = some dd) (i : dd < n) (d : kq P E o W v W) (h : O2 P n ops Q rest (lz E dd v) W) : O2 P n ops Q (o :: rest) E W := fun a c => by
 unfold wpList
 rw [aq (hw.of c)]
 refine .inl ?_
 unfold Oper.wp
 unfold kq at d
 rw [c.eval, d, cQ, g]
 exact h _ (c.put i v)
theorem MF {d : Deferred} (hw : lq n ops E o) (g : o.dst = none) (i : (execOp (iZ E) o).run P W = .ok (.defer d) W) (h : Q [d] .normal E W) : O2 P n ops Q [o] E W := fun a c => by
 unfold wpList
 rw [aq (hw.of c)]
 refine .inl ?_
 unfold Oper.wp
 rw [c.eval, i, Oper.upon_defer, g]
 exact wpList_nil ⟨[d], E, ⟨c.1, by simp [Act.put, c.2.1], c.2.2⟩, h⟩
theorem JG {f : FuncId} {fn : Func} {c : Code} {args : List Value} {w : World} {R : Ending → World → Prop} (k : P.funcs[f]? = some fn) (j : fn.body = some c) (m : fn.ntmps = n) (i : args.length ≤ n) (h : KF P n c (fun D => RN P fn R D) (vO args) w) : Calls P f args.toArray w R := by
 refine calls_of_wp_defers k j (eC (h _ (Ja m i)) (fun e a o ⟨D, g⟩ => ?_))
 cases e with
 | normal => obtain ⟨E, d, h⟩ := g; show Leaves _ _ _ _ a.defers _ _; rw [d.2.1]; exact h _ d.2.2
 | ret => obtain ⟨E, d, h⟩ := g; show Leaves _ _ _ _ a.defers _ _; rw [d.2.1]; exact h _ d.2.2
 | exit id => obtain ⟨E, d, h⟩ := g; exact h.elim
 | goto l => obtain ⟨E, d, h⟩ := g; exact h.elim
 | panic c => show Leaves _ _ _ _ a.defers _ _; rw [g.1]; exact g.2.2 _ (fun _ => rfl)
 | outgrown => exact g.elim
theorem MY {d : Option Nat} {ty : TypeId} {pos : String} {af : Array Edge} {g : Option (Nat × Bool)} {f : FuncId} {fv : Operand} {ax : Array Operand} {ats : Array TypeId} {caps : Array Value} {args : List Value} (h : iZ E fv = .func (.func f) #[] caps) (c : ax.map (iZ E) ++ (#[] : Array Value) = args.toArray) : (execOp (iZ E) ⟨d, .defer ⟨.value fv, ax, ats⟩, ty, pos, af, g⟩).run P W = .ok (.defer ⟨.fn (.func f) caps, args.toArray⟩) W := by
 show (do pure (.defer (← resolve (iZ E) ⟨.value fv, ax, ats⟩ ty)) : Sem Next).run P W = _
 have a : ax.map (iZ E) = args.toArray := by simpa using c
 simp [resolve, Deferred.ofValue, h, a]
theorem IC {fn : Func} {R : Ending → World → Prop} {k : FuncId} {ax : Array Value} {u : FrameMode} {X : World → Prop} (hu : u ≠ .run) (he : ∀ args w, (callFunc k args).run P w = .ok (.enter k args) w) (c : CallsD P k ax u W fun e a W' => e = .returned (.tuple #[]) ∧ settle a = .returning ∧ X W') (h : ∀ W', X W' → wE P fn R .ret E W') (tmps : Array Value) (i : ∀ t, tmps.getD t undef = E t) : Leaves P fn tmps R [⟨.fn (.func k) #[], ax⟩] u W :=
 leaves_cons hu (by simp [invoke, he]) (CallsD.mono c (by
  rintro e a W' ⟨rfl, g, m⟩
  obtain ⟨v, j, d⟩ := h W' m
  show Leaves _ _ _ _ [] (settle a) _
  rw [g]
  exact ⟨v, j _ i, d⟩))
end
theorem qZ.form {κ γ : Type} {kenc : κ → Value} {Q : Value → γ → List (Nat × Obj) → Prop} {μ : jw} {v : Value} {l : List (κ × γ)} (h : qZ kenc Q μ v l) : ∃ m, v = .map m := by
 obtain ⟨a, R, h, _⟩ := h
 obtain ⟨m, rfl⟩ := h.form
 exact ⟨_, rfl⟩
def Pm (dd : Bool) (w : World) (μ0 : jw) (L0 : List (Nat × Obj)) (K : Value → List (Nat × Obj) → jw → Prop) : Ending → World → Prop := fun e a => ∃ v L1 μ1, e = .returned v ∧ pX dd L0 L1 w a ∧ js μ0 μ1 ∧ Lo (keys L0) w μ0 μ1 ∧ js μ1 (pY a L1) ∧ K v L1 μ1
theorem Nd {dd : Bool} {P : Program} {f : FuncId} {args : List Value} {w : World} {μ0 : jw} {L0 : List (Nat × Obj)} {K : Value → List (Nat × Obj) → jw → Prop} (h : Calls P f args.toArray w (Pm dd w μ0 L0 K)) : oq dd P f args w μ0 L0 K := h
theorem oq.mono {dd : Bool} {P : Program} {f : FuncId} {args : List Value} {w : World} {μ0 : jw} {L0 : List (Nat × Obj)} {K K' : Value → List (Nat × Obj) → jw → Prop} (h : oq dd P f args w μ0 L0 K) (hk : ∀ v L1 μ1, js μ0 μ1 → K v L1 μ1 → K' v L1 μ1) : oq dd P f args w μ0 L0 K' :=
 bp h fun _ _ ⟨v, L1, μ1, h1, c, a, d, g, i⟩ => ⟨v, L1, μ1, h1, c, a, d, g, hk _ _ _ a i⟩
theorem jH.mono {R : Type} {dd : Bool} {P : Program} {f : FuncId} {args : List Value} {w : World} {μ0 : jw} {L0 : List (Nat × Obj)} {s : Int ⊕ R} {K K' : R → Value → List (Nat × Obj) → jw → Prop} {X X' : Int → List PanicEntry → List (Nat × Obj) → jw → Prop} (h : jH dd P f args w μ0 L0 s K X) (hk : ∀ r v L1 μ1, K r v L1 μ1 → K' r v L1 μ1) (k : ∀ x c L1 μ1, X x c L1 μ1 → X' x c L1 μ1) : jH dd P f args w μ0 L0 s K' X' :=
 bp h fun e m h => by
  cases s with
  | inl x => obtain ⟨v, L1, μ1, h1, a, d, g, i, j⟩ := h; exact ⟨v, L1, μ1, h1, a, d, g, i, k _ _ _ _ j⟩
  | inr r => obtain ⟨v, L1, μ1, h1, a, d, g, i, j⟩ := h; exact ⟨v, L1, μ1, h1, a, d, g, i, hk _ _ _ _ j⟩
def Pe {S : Type} (K : S → List (Nat × Obj) → jw → Prop) (X : Int → List (Nat × Obj) → jw → Prop) : Int ⊕ S → List (Nat × Obj) → jw → Prop
 | .inl x => X x
 | .inr r => K r
end Go.Proofs.YtbnbdigcbldfhaaGreat
namespace Go.Proofs.YtbnbdigcbldfhaaGreat
open Go.IntKind renaming wrap → wi0
open Go.Sort Go.Proofs Go.Shelf
theorem yo {g b : Nat} {o : Obj} : keys [(g, o)] b ↔ b = g := by
 constructor
 ·rintro ⟨a, h⟩
  simp at h
  exact h.1
 ·rintro rfl; exact ⟨o, by simp⟩
theorem yv (w : World) (g m : Nat) (f : Array Value → Array Value) (os : Array Obj) (b : Nat) (c : b < w.heap.size) :
  (Go.Sort.grow (mapBlock (Go.Sort.ahead w m) g f) os).heap[b]? = if g = b then w.heap[b]?.map (onCells f) else w.heap[b]? := by
 have a : b < (mapBlock (Go.Sort.ahead w m) g f).heap.size := by simp only [mapBlock, Go.Sort.ahead, Array.size_modify]; exact c
 rw [heap_grow_old _ _ a]
 simp only [mapBlock, Go.Sort.ahead, cI]
theorem Bj {w : World} {g m : Nat} {f : Array Value → Array Value} {os : Array Obj} {cs : Array Value} {T : TypeId} {fr : Nat × Nat} (c : w.heap[g]? = some (.cells cs T fr)) :
  pX true [(g, .cells cs T fr)] [(g, .cells (f cs) T fr)] w (Go.Sort.grow (mapBlock (Go.Sort.ahead w m) g f) os) := by
 have a : g < w.heap.size := (bD.1 c).1
 refine ⟨⟨rfl, rfl, rfl, ?_, ?_, fun b d i => ?_⟩, fun b o h => ?_, by simp⟩
 ·refine rN.of ?_
  show w.drawn ≤ w.drawn + m
  omega
 ·show w.heap.size ≤ (w.heap.modify g (onCells f) ++ os).size
  simp
 ·rw [yv _ _ _ _ _ _ d, ap fun h => i (yo.2 h.symm)]
 ·simp only [ay, cj, eo, Prod.mk.injEq] at h
  obtain ⟨rfl, rfl⟩ := h
  refine ⟨?_, .inr (yo.2 rfl)⟩
  rw [yv _ _ _ _ _ _ a, aq rfl, c]
  rfl
theorem FH {w W : World} (h : Ex true w W) : ∃ q os, W = Go.Sort.grow (w.drewN q) os := by
 refine ⟨W.drawn - w.drawn, W.heap.extract w.heap.size W.heap.size, ?_⟩
 have g : W.heap = w.heap ++ W.heap.extract w.heap.size W.heap.size := by
  apply Array.ext_getElem?
  intro i
  rw [dT]
  split
  ·rename_i j; exact h.kN i j
  ·rename_i j
   rw [Array.getElem?_extract]
   have m := h.size
   split
   ·rw [show w.heap.size + (i - w.heap.size) = i by omega]
   ·exact Array.getElem?_eq_none (by omega)
 obtain ⟨h1, n, o, p, s⟩ := W
 have a := h.os; have c := h.tape; have d := h.output; have k := h.drawn rfl
 simp only at a c d k g
 unfold Go.Sort.grow World.drewN
 simp only [World.mk.injEq]
 exact ⟨g, c, by omega, a, d⟩
theorem Kz {α : Type} [Inhabited α] {enc : α → List Value} {k : Nat} (hk : ∀ x, (enc x).length = k) (l : List α) (j : Nat) (a : j < l.length * k) :
  (l.map enc).flatten[j]? = some ((flatK enc k l.toArray)[j]!) := by
 have g : 0 < k := by
  cases k with
  | zero => simp at a
  | succ n => omega
 have h1 : j / k < l.length := (fG g).2 a
 rw [get_flatK _ _ _ _ (by simpa using a)]
 have h : l.toArray[j / k]! = l[j / k] := by
  rw [fj l.toArray (j / k) (by simpa using h1)]; simp
 rw [h]
 have c : j % k < (enc l[j / k]).length := by rw [hk]; exact Nat.mod_lt _ g
 have d := vH hk l (j / k) l[j / k] (bq h1) (j % k) ((enc l[j / k])[j % k]) (bq c)
 rw [Nat.div_add_mod' j k] at d
 rw [d, fj (enc l[j / k]) (j % k) c]
theorem HO {α : Type} [Inhabited α] {enc : α → List Value} {k : Nat} (hk : ∀ x, (enc x).length = k) {w : World} {g : Nat} {cs : Array Value} {T : TypeId} (c : w.heap[g]? = some (.cells cs T (0, 0))) (l : List α)
  (h : cs.toList.take (l.length * k) = (l.map enc).flatten) : HoldsK enc k w g 0 l.toArray := by
 intro j d
 have a : j < l.length * k := by simpa using d
 have h1 := Kz hk l j a
 rw [← h, ct, aq a] at h1
 refine ⟨?_, ?_⟩
 ·simp only [World.cell?, c, cd]
  simpa using h1
 ·simp [World.frozen?, c]
theorem J9 {α : Type} [Inhabited α] {enc : α → List Value} {k : Nat} (hk : ∀ x, (enc x).length = k) {cs : Array Value} (l : List α) (c : l.length * k ≤ cs.size) :
  (putCells id 0 (flatK enc k l.toArray) cs).toList.take (l.length * k) = (l.map enc).flatten := by
 apply cC
 intro j
 rw [ct]
 split
 ·rename_i a
  rw [Kz hk l j a]
  simp only [putCells, bR, fI, size_flatK, bJ]
  rw [dt (by omega)]
  simp [a]
 ·rename_i a
  rw [bQ (by rw [ns hk]; omega)]
theorem H8 (enc : Value → Value) (o : Nat) (d c : Array Value) : (putCells enc o d c).size = c.size := by simp [putCells]
section
variable {α : Type} {P : Program} {ρ : Ren}
theorem Nt {l : List α} {cf : α × α → Option Int} (h : DF cf l) : SWO (ltOf fun (x y : {x // x ∈ l}) => (cf (x.1, y.1)).getD 0) ∧
  (∀ x y : {x // x ∈ l}, ltOf (fun (x y : {x // x ∈ l}) => (cf (x.1, y.1)).getD 0) x y = rj cf x.1 y.1) := by
 have e : ∀ x y : {x // x ∈ l}, ltOf (fun (x y : {x // x ∈ l}) => (cf (x.1, y.1)).getD 0) x y = rj cf x.1 y.1 := fun x y => by
  obtain ⟨c, i⟩ := h.is x.1 x.2 y.1 y.2
  simp [ltOf, rj, i]
 refine ⟨⟨fun x => ?_, fun x y z => ?_, fun x y z => ?_⟩, e⟩
 ·rw [e]; exact h.irrefl _ x.2
 ·rw [e, e, e]; exact h.trans _ x.2 _ y.2 _ z.2
 ·rw [e, e, e]
  intro h1 d
  cases a : rj cf x.1 z.1 with
  | false => rfl
  | true =>
   cases g : rj cf y.1 x.1 with
   | true =>
    have := h.trans _ y.2 _ x.2 _ z.2 g a
    rw [d] at this; cases this
   | false =>
    have := h.total _ x.2 _ y.2 h1 g
    rw [this, d] at a; cases a
theorem EU (L : SlLaysF0.n6 P ρ) (k : Nat) (aE : ∀ w, (isAgg (ρ.t 24)).run P w = .ok true w) (zE : ∀ w, (Go.sizeOf (ρ.t 24)).run P w = .ok k w) {e : TypeId} (enc : α → List Value) (hk : ∀ x, (enc x).length = k) (h1 : ∀ x, ∀ u ∈ enc x, u.oneCell' = true) {v fv : Value} {l r : List α} {R : List (Nat × Obj)} {cf : α × α → Option Int} {w : World} {μ0 : jw} (hH : By (R ++ []) w) (A : js μ0 (pY w (R ++ []))) (Y : jl e enc k v l R) (hc : EN P fv μ0 (fun (x : α × α) => [(.agg (enc x.1).toArray), (.agg (enc x.2).toArray)]) (fun (r : Int) => (.int .i64 r)) cf) (hm : wg cf l = some r) :
  jY true P (ρ.f 6) [v, fv] w (R ++ []) (fun u L1 _ => ∃ (S : List (Nat × Obj)), u = (.tuple #[]) ∧ L1 = (S ++ []) ∧ jl e enc k v r S) := by
 obtain ⟨ok, rfl⟩ := zG hm
 rw [bu] at hH A ⊢
 rcases cF l.length with h0 | i
 ·have hl : l = [] := aX h0
  subst hl
  have Z : ol cf ([] : List α) = [] := by simp [ol]
  rw [Z]
  obtain ⟨p, c, rfl⟩ : ∃ p c, v = .slice p 0 c := by
   rcases Y with ⟨rfl, _, _⟩ | ⟨g, cap, j, rfl, _⟩
   ·exact ⟨_, _, rfl⟩
   ·exact ⟨_, _, rfl⟩
  refine bp (AnyF.slices_SortFunc_none L p c fv w) fun x w' ⟨hx, hw⟩ => ?_
  subst hx hw
  refine ⟨_, R, rfl, ⟨⟨rfl, rfl, rfl, rN.of (aJ _), aJ _, fun _ _ _ => rfl⟩, fun b o h => ⟨hH b o h, .inr ⟨o, h⟩⟩, ?_⟩, R, rfl, (bu R).symm, Y⟩
  rcases Y with ⟨_, _, rfl⟩ | ⟨g, cap, j, _, rfl, _⟩ <;> simp
 ·rcases Y with ⟨_, rfl, _⟩ | ⟨g, cap, j, rfl, rfl, a8, a7, J, ao⟩
  ·simp at i
  have hg : w.heap[g]? = some (.cells j e (0, 0)) := hH g _ (by simp)
  have ab : g < w.heap.size := (bD.1 hg).1
  haveI : Inhabited {x // x ∈ l} := ⟨⟨l[0], dm i⟩⟩
  obtain ⟨gg, caps, rfl, M, q⟩ := hc
  obtain ⟨hO, Q⟩ := Nt ok
  have D : l.attach.toArray.size = l.length := by simp
  have ad : l.attach.map (fun x => enc x.1) = l.map enc := by
   rw [show (fun x : {x // x ∈ l} => enc x.1) = enc ∘ Subtype.val from rfl, ← cO, List.attach_map_subtype_val]
  have a1 : HoldsK (fun x : {x // x ∈ l} => enc x.1) k w g 0 l.attach.toArray := HO (fun x => hk x.1) hg l.attach (by rw [ad, List.length_attach, ao])
  have I : CmpLays P gg caps (fun x : {x // x ∈ l} => enc x.1) k (fun x y => (cf (x.1, y.1)).getD 0) g 0 l.attach.toArray.size w := by
   intro m os dk b0 x y
   obtain ⟨c, G⟩ := ok.is x.1 x.2 y.1 y.2
   have W : js μ0 (hp (sortWorldK (fun x : {x // x ∈ l} => enc x.1) k w g 0 m dk os)) := fun b o hb => by
    have z := A b o hb
    unfold pY at z
    split at z
    ·cases z
    ·rename_i hn
     have a6 : b < w.heap.size := (bD.1 z).1
     show (Go.Sort.grow (mapBlock (Go.Sort.ahead w m) g _) os).heap[b]? = _
     rw [yv _ _ _ _ _ _ a6, ap fun h => hn (yo.2 h.symm)]
     exact z
   have h3 := q (sortWorldK (fun x : {x // x ∈ l} => enc x.1) k w g 0 m dk os) (x.1, y.1) c W G
   have ea : ([Value.agg (enc x.1).toArray, Value.agg (enc y.1).toArray] ++ caps.toList).toArray = #[Value.agg (enc x.1).toArray, Value.agg (enc y.1).toArray] ++ caps := by
    apply Array.ext'; simp
   rw [← ea]
   exact bp h3 fun u W' hu => ⟨by rw [hu.1]; show _ = Ending.returned (.int .i64 ((cf (x.1, y.1)).getD 0)); rw [G]; rfl, FH hu.2⟩
  have hT : ∀ x y : {x // x ∈ l}, ltOf (fun (x y : {x // x ∈ l}) => (cf (x.1, y.1)).getD 0) x y = false → ltOf (fun (x y : {x // x ∈ l}) => (cf (x.1, y.1)).getD 0) y x = false → x = y := fun x y a b => by
   rw [Q] at a b
   exact Subtype.ext (ok.total _ x.2 _ y.2 a b)
  have d := AnyQ.slices_SortFunc_total L k aE zE (fun x : {x // x ∈ l} => enc x.1) (fun x => hk x.1) (fun x => h1 x.1) (fun x y => (cf (x.1, y.1)).getD 0) hO gg caps g 0 cap l.attach.toArray w M I a1 ab (by rw [D]; exact ok.short) hT
  rw [D] at d
  refine bp d fun u w' ⟨hu, n, os, hw⟩ => ?_
  subst hu
  generalize Z : l.attach.toArray.toList.mergeSort (fun x y => !ltOf (fun (x y : {x // x ∈ l}) => (cf (x.1, y.1)).getD 0) y x) = s at hw
  have af : s.map Subtype.val = ol cf l := by
   rw [← Z, eG (s := fun x y => !rj cf y x) (fun a _ b _ => by rw [Q])]
   simp [ol]
  have U : s.length = l.length := by rw [← Z, dW]; simp
  have T : (ol cf l).length = l.length := by simp [ol, dW]
  have E := Bj (w := w) (m := n) (f := putCells id 0 (flatK (fun x : {x // x ∈ l} => enc x.1) k s.toArray)) (os := os) hg
  have av : w' = Go.Sort.grow (mapBlock (Go.Sort.ahead w n) g (putCells id 0 (flatK (fun x : {x // x ∈ l} => enc x.1) k s.toArray))) os := hw
  rw [← av] at E
  refine ⟨_, _, rfl, E, _, rfl, (bu _).symm, .inr ⟨g, cap, _, by rw [T], rfl, by omega, a7, by rw [H8, J], ?_⟩⟩
  rw [T, ← U, J9 (fun x => hk x.1) s (by rw [U, J]; exact bd k a8), ← af, cO]
  rfl
end
end Go.Proofs.YtbnbdigcbldfhaaGreat
namespace Go.Proofs.YtbnbdigcbldfhaaGreat
open Go.IntKind renaming wrap → wi0
open Go.Sort Go.Proofs Go.Shelf Go.RowKit
def uh (c : qM 1) : Value := c.1.headD undef
theorem El (c : qM 1) : c.1 = [uh c] := by
 obtain ⟨l, h, d⟩ := c
 match l, h with
 | [a], _ => rfl
theorem N3 (c : qM 1) : (uh c).oneCell' = true := c.2.2 _ (by rw [El c]; simp)
theorem Mw : ∀ cl : List (qM 1), (cl.map tH).flatten = cl.map uh
 | [] => rfl
 | c :: cl => by rw [aO, cA, Mw cl, show tH c = [uh c] from El c]; rfl
theorem N9 {α β : Type} {Q : α → β → Prop} {cl : List α} {l : List β} (h : ox Q cl l) : ∀ (i : Nat) (x : β), l[i]? = some x → ∃ c, cl[i]? = some c ∧ Q c x := by
 induction h with
 | nil => intro i x a; simp at a
 | cons g _ ih =>
  intro i x a
  cases i with
  | zero => simp at a; subst a; exact ⟨_, by simp, g⟩
  | succ i => simp at a; obtain ⟨c, h1, d⟩ := ih i x a; exact ⟨c, by simpa using h1, d⟩
theorem It {α β γ : Type} {Q : α → β → Prop} {f : γ → α} {g : γ → β} : ∀ s : List γ, (∀ x ∈ s, Q (f x) (g x)) → ox Q (s.map f) (s.map g)
 | [], _ => .nil
 | x :: s, h => .cons (h x (by simp)) (It s (fun y a => h y (by simp [a])))
theorem Re {β : Type} {Q : qM 1 → β → Prop} {cl : List (qM 1)} {l : List β} (h : ox Q cl l) (q : l.Nodup) : ∃ enc : {x // x ∈ l} → qM 1, l.attach.map enc = cl ∧ ∀ x, Q (enc x) x.1 := by
 have g : ∀ x : {x // x ∈ l}, ∃ (i : Nat) (c : qM 1), l[i]? = some x.1 ∧ cl[i]? = some c ∧ Q c x.1 := fun x => by
  obtain ⟨i, a⟩ := List.getElem?_of_mem x.2
  obtain ⟨c, h1, p⟩ := N9 h i _ a
  exact ⟨i, c, a, h1, p⟩
 refine ⟨fun x => (g x).choose_spec.choose, ?_, fun x => (g x).choose_spec.choose_spec.2.2⟩
 apply cC
 intro i
 rw [ck]
 by_cases a : i < l.length
 ·have o : l.attach[i]? = some ⟨l[i], dm a⟩ := by
   rw [bq (by simpa using a)]; simp
  rw [o, cw]
  have s := (g ⟨l[i], dm a⟩).choose_spec.choose_spec
  generalize (g ⟨l[i], dm a⟩).choose_spec.choose = c at *
  generalize (g ⟨l[i], dm a⟩).choose = j at *
  obtain ⟨n, a2, _⟩ := s
  obtain ⟨m, k⟩ := aF.1 n
  have : j = i := by
   have hp := List.pairwise_iff_getElem.1 q
   rcases Nat.lt_trichotomy j i with d | d | d
   ·exact absurd k (hp j i m a d)
   ·exact d
   ·exact absurd k.symm (hp i j a m d)
  rw [← this, a2]
 ·rw [bQ (by simpa using a), bQ (by rw [h.length]; omega)]; rfl
theorem Je {α : Type} [Inhabited α] {enc : α → Value} {cs : Array Value} (l : List α) (c : l.length ≤ cs.size) :
  (putCells enc 0 l.toArray cs).toList.take l.length = l.map enc := by
 apply cC
 intro j
 rw [ct, ck]
 split
 ·rename_i a
  simp only [putCells, bR, fI, bJ]
  rw [dt (by omega)]
  simp [a]
 ·rename_i a
  rw [bQ (by omega)]; rfl
section
variable {P : Program} {ρ : Ren} {β : Type} {Rl : py β}
theorem Kc (L : SlLaysF.n6 P ρ) (hD : Deep Rl 1) {e : TypeId} {v fv : Value} {l r : List β} {R : List (Nat × Obj)} {cf : β × β → Option Int} {w : World} {μ0 : jw} (h0 : nR μ0 (R ++ []) w) (hr : nu e Rl 1 μ0 v l R) (hc : Sz P fv μ0 Rl cf) (hm : Ew cf l = some r) :
  oq true P (ρ.f 6) [v, fv] w μ0 (R ++ []) (fun u L1 μ1 => ∃ (S : List (Nat × Obj)), u = (.tuple #[]) ∧ L1 = (S ++ []) ∧ nu e Rl 1 μ1 v r S) := by
 unfold Ew at hm
 have hn : l.Nodup := du fun h => by rw [ap h] at hm; cases hm
 rw [aq hn] at hm
 obtain ⟨ok, rfl⟩ := zG hm
 have hH := h0.H
 have D := h0.S
 obtain ⟨cl, d, k⟩ := hr
 have hlen := k.length
 rw [bu] at hH D ⊢
 rcases cF l.length with hz | Z
 ·have hl : l = [] := aX hz
  subst hl
  have a8 : cl = [] := aX (by simpa using hlen)
  subst a8
  have hs : ol cf ([] : List β) = [] := by simp [ol]
  rw [hs]
  obtain ⟨p, c, rfl⟩ : ∃ p c, v = .slice p 0 c := by
   rcases d with ⟨rfl, _, _⟩ | ⟨g, cap, i, rfl, _⟩
   ·exact ⟨_, _, rfl⟩
   ·exact ⟨_, _, rfl⟩
  refine bp (AnyF.slices_SortFunc_none (P := P) (ρ := ρ) { L with } p c fv w) fun x w' ⟨hx, hw⟩ => ?_
  subst hx hw
  refine ⟨_, R, μ0, rfl, ⟨⟨rfl, rfl, rfl, rN.of (aJ _), aJ _, fun _ _ _ => rfl⟩, fun b o h => ⟨hH b o h, .inr ⟨o, h⟩⟩, ?_⟩, js.refl _, Lo.refl, D, R, rfl, (bu R).symm, [], d, k⟩
  rcases d with ⟨_, _, rfl⟩ | ⟨g, cap, i, _, rfl, _⟩ <;> simp
 ·rcases d with ⟨_, rfl, _⟩ | ⟨g, cap, i, rfl, rfl, af, ab, ad, I⟩
  ·simp at hlen; omega
  rw [hlen] at af I
  rw [Mw, Nat.mul_one] at I
  rw [Nat.mul_one] at ad
  have hg : w.heap[g]? = some (.cells i e (0, 0)) := hH g _ (by simp)
  have ao : g < w.heap.size := (bD.1 hg).1
  haveI : Inhabited {x // x ∈ l} := ⟨⟨l[0], dm Z⟩⟩
  obtain ⟨enc, he, hq⟩ := Re k hn
  obtain ⟨gg, caps, rfl, W, E⟩ := hc
  obtain ⟨hO, Y⟩ := Nt ok
  have M : l.attach.toArray.size = l.length := by simp
  have a1 : cl.map uh = l.attach.map (fun x => uh (enc x)) := by rw [← he, cO]; rfl
  have a6 : Holds (fun x : {x // x ∈ l} => uh (enc x)) w g 0 l.attach.toArray := by
   intro j hj
   have G : j < l.length := by simpa using hj
   have e1 : i[j]? = some (uh (enc l.attach.toArray[j]!)) := by
    have h1 : (i.toList.take l.length)[j]? = i[j]? := by rw [ct, aq G]; simp
    rw [← h1, I, a1, ck, bq (by simpa using G), cw]
    rw [fj l.attach.toArray j (by simpa using G)]; simp
   refine ⟨?_, ?_⟩
   ·simp only [World.cell?, hg, cd]
    simpa using e1
   ·simp [World.frozen?, hg]
  have z : ∀ (m : Nat) (os : Array Obj) (J : Array {x // x ∈ l}), js μ0 (hp (sortWorld (fun x : {x // x ∈ l} => uh (enc x)) w g 0 m J os)) := fun m os J b o hb => by
   have A := D b o hb
   unfold pY at A
   split at A
   ·cases A
   ·rename_i hn
    have a7 : b < w.heap.size := (bD.1 A).1
    show (Go.Sort.grow (mapBlock (Go.Sort.ahead w m) g _) os).heap[b]? = _
    rw [yv _ _ _ _ _ _ a7, ap fun h => hn (yo.2 h.symm)]
    exact A
  have U : CmpLays1 P gg caps (fun x : {x // x ∈ l} => uh (enc x)) (fun x y => (cf (x.1, y.1)).getD 0) g 0 l.attach.toArray.size w := by
   intro m os J b2 x y
   obtain ⟨c, T⟩ := ok.is x.1 x.2 y.1 y.2
   have t := z m os J
   have h3 := E (sortWorld (fun x : {x // x ∈ l} => uh (enc x)) w g 0 m J os) (x.1, y.1) (uh (enc x)) (uh (enc y)) c t (by rw [← El]; exact hD.mono _ _ _ _ t (hq x)) (by rw [← El]; exact hD.mono _ _ _ _ t (hq y)) T
   have ea : ([uh (enc x), uh (enc y)] ++ caps.toList).toArray = #[uh (enc x), uh (enc y)] ++ caps := by
    apply Array.ext'; simp
   rw [← ea]
   exact bp h3 fun u W' hu => ⟨by rw [hu.1]; show _ = Ending.returned (.int .i64 ((cf (x.1, y.1)).getD 0)); rw [T]; rfl, FH hu.2⟩
  have hT : ∀ x y : {x // x ∈ l}, ltOf (fun (x y : {x // x ∈ l}) => (cf (x.1, y.1)).getD 0) x y = false → ltOf (fun (x y : {x // x ∈ l}) => (cf (x.1, y.1)).getD 0) y x = false → x = y := fun x y a b => by
   rw [Y] at a b
   exact Subtype.ext (ok.total _ x.2 _ y.2 a b)
  have q := Any.slices_SortFunc_total L (fun x : {x // x ∈ l} => uh (enc x)) (fun x => N3 _) (fun x y => (cf (x.1, y.1)).getD 0) hO gg caps g 0 cap l.attach.toArray w W U a6 ao (by rw [M]; exact ok.short) hT
  rw [M] at q
  rw [hlen]
  refine bp q fun u w' ⟨hu, n, os, hw⟩ => ?_
  subst hu
  generalize hs : l.attach.toArray.toList.mergeSort (fun x y => !ltOf (fun (x y : {x // x ∈ l}) => (cf (x.1, y.1)).getD 0) y x) = s at hw
  have b0 : s.map Subtype.val = ol cf l := by
   rw [← hs, eG (s := fun x y => !rj cf y x) (fun a _ b _ => by rw [Y])]
   simp [ol]
  have aE : s.length = l.length := by rw [← hs, dW]; simp
  have Q := Bj (w := w) (m := n) (f := putCells (fun x : {x // x ∈ l} => uh (enc x)) 0 s.toArray) (os := os) hg
  have b1 : w' = Go.Sort.grow (mapBlock (Go.Sort.ahead w n) g (putCells (fun x : {x // x ∈ l} => uh (enc x)) 0 s.toArray)) os := hw
  rw [← b1] at Q
  refine ⟨_, _, μ0, rfl, Q, js.refl _, Lo.refl, ?_, _, rfl, (bu _).symm, s.map enc, .inr ⟨g, cap, _, by rw [cL, aE], rfl, by rw [cL]; omega, ab, by simp [putCells]; omega, ?_⟩, ?_⟩
  ·intro b o hb
   have A := D b o hb
   unfold pY at A ⊢
   split at A
   ·cases A
   ·rename_i av
    rw [ap (fun h => av (yo.2 (yo.1 h)))]
    have := z n os s.toArray b o hb
    rw [hw]; exact this
  ·rw [cL, Nat.mul_one, Mw, cO]
   exact Je s (by omega)
  ·rw [← b0]
   exact It s (fun x _ => hq x)
end
end Go.Proofs.YtbnbdigcbldfhaaGreat
namespace Go.Proofs.YtbnbdigcbldfhaaGreat
open Go.IntKind renaming wrap → wi0
open Go.Sort Go.Proofs Go.Shelf
theorem DQ (b : ByteArray) : b.toList = b.data.toList := by rw [dB]
theorem Ik (l : List ByteArray) : (l.map lE).flatten = l.map Value.string := by
 induction l with
 | nil => rfl
 | cons x l ih => simp only [aO, cA, ih]; rfl
theorem Is (l : List ByteArray) : (mL l).map (fun b => b.data.toList) = (l.map (fun b => b.data.toList)).mergeSort (fun x y => decide (x ≤ y)) := by
 unfold mL
 refine eG fun a _ b _ => ?_
 unfold nX
 rw [bytesLess_eq, DQ, DQ]
 by_cases h : a.data.toList ≤ b.data.toList
 ·have c : ¬ b.data.toList < a.data.toList := List.not_lt.2 h
  simp [h, c]
 ·have c : b.data.toList < a.data.toList := by
   cases Decidable.em (b.data.toList < a.data.toList) with
   | inl d => exact d
   | inr d => exact absurd (List.not_lt.1 d) h
  simp [h, c]
section
variable {P : Program} {ρ : Ren}
theorem JZ (L : SlLaysM.n6 P ρ) {e : TypeId} {v : Value} {l r : List ByteArray} {R : List (Nat × Obj)} {w : World} (hH : By (R ++ []) w) (A : jl e lE 1 v l R) (hm : Ek l = some r) :
  jY true P (ρ.f 6) [v] w (R ++ []) (fun u L1 _ => ∃ (S : List (Nat × Obj)), u = (.tuple #[]) ∧ L1 = (S ++ []) ∧ jl e lE 1 v r S) := by
 unfold Ek at hm
 split at hm
 ·rename_i k
  cases hm
  rw [bu] at hH ⊢
  rcases cF l.length with T | s
  ·have Y : l = [] := aX T
   subst Y
   have hs : mL [] = [] := by simp [mL]
   rw [hs]
   obtain ⟨p, c, rfl⟩ : ∃ p c, v = .slice p 0 c := by
    rcases A with ⟨rfl, _, _⟩ | ⟨g, cap, d, rfl, _⟩
    ·exact ⟨_, _, rfl⟩
    ·exact ⟨_, _, rfl⟩
   refine bp (AnyM.slices_Sort_string_none L p c w) fun x Q ⟨hx, hw⟩ => ?_
   subst hx hw
   refine ⟨_, R, rfl, ⟨⟨rfl, rfl, rfl, rN.of (aJ _), aJ _, fun _ _ _ => rfl⟩, fun b o h => ⟨hH b o h, .inr ⟨o, h⟩⟩, ?_⟩, R, rfl, (bu R).symm, A⟩
   rcases A with ⟨_, _, rfl⟩ | ⟨g, cap, d, _, rfl, _⟩ <;> simp
  ·rcases A with ⟨_, rfl, _⟩ | ⟨g, cap, d, rfl, rfl, Z, E, G, J⟩
   ·simp at s
   have y : w.heap[g]? = some (.cells d e (0, 0)) := hH g _ (by simp)
   have I : g < w.heap.size := (bD.1 y).1
   have D : Holds encStr w g 0 (l.map (fun b => b.data.toList)).toArray := by
    intro j z
    have i : j < l.length := by simpa using z
    have h1 : (d.toList.take (l.length * 1))[j]? = ((l.map lE).flatten)[j]? := by rw [J]
    rw [Ik, ct, aq (by omega), ck, bq i] at h1
    refine ⟨?_, by simp [World.frozen?, y]⟩
    simp only [World.cell?, y, cd]
    rw [fj _ j z]
    simpa using h1
   have a := AnyM.slices_Sort_string L g 0 cap (l.map (fun b => b.data.toList)) w D I (by simpa using k)
   rw [cL, ← Is] at a
   refine bp a fun u Q ⟨hu, n, os, hw⟩ => ?_
   subst hu
   have t : (mL l).length = l.length := by simp [mL, dW]
   have q := Bj (w := w) (m := n) (f := putCells encStr 0 ((mL l).map (fun b => b.data.toList)).toArray) (os := os) y
   have M : Q = Go.Sort.grow (mapBlock (Go.Sort.ahead w n) g (putCells encStr 0 ((mL l).map (fun b => b.data.toList)).toArray)) os := hw
   rw [← M] at q
   refine ⟨_, _, rfl, q, _, rfl, (bu _).symm, .inr ⟨g, cap, _, by rw [t], rfl, by omega, E, by simpa [putCells] using G, ?_⟩⟩
   rw [t, Ik]
   apply cC
   intro j
   rw [ct]
   split
   ·rename_i z
    have i : j < (mL l).length := by omega
    rw [ck, bq i]
    simp only [putCells, bR, fI]
    rw [dt (by omega)]
    have U : j < ((mL l).map (fun b => b.data.toList)).toArray.size := by simpa using i
    have W : 0 ≤ j ∧ j < 0 + ((mL l).map (fun b => b.data.toList)).toArray.size := ⟨by omega, by omega⟩
    simp only [cw, aq W, Nat.sub_zero]
    rw [fj _ j U]
    simp
   ·rename_i z
    rw [bQ (by simp; omega)]
 ·cases hm
end
end Go.Proofs.YtbnbdigcbldfhaaGreat
namespace Go.Proofs.YtbnbdigcbldfhaaGreat
open Go.IntKind renaming wrap → wi0
open Go.WideElems Go.WideShapes Go.Sort Go.Proofs Go.Shelf
theorem J3 {β : Type} {vf : β → Value} {P : Program} {kt : TypeId} (z : P.underlying kt = some .string) {l : List (ByteArray × β)} {es : Array MapEntry} {clock : Nat} (h : tV Value.string vf l es clock) (w : (l.map (·.1)).Nodup) (y : ∀ p ∈ l, p.1.size ≤ maxLen) (u : l.length ≤ maxLen) {W : World} {b : Nat} (t : W.heap[b]? = some (.map es clock)) : ∃ D : DataW Unit, W.ownsMap P kt (fun _ => some (.lit (.bool true), [])) b es.size D ∧ (strKeys D).Perm (l.map (fun p => p.1.data.toList)) ∧ Maps.size D = l.length := by
 have c := h.keys
 have m : ∀ x ∈ es.toList, ∃ s : ByteArray, x.key = .string s ∧ s.size ≤ maxLen := fun x i => by
  have h1 : x.key ∈ es.toList.map (·.key) := aQ.2 ⟨x, i, rfl⟩
  rw [c] at h1
  obtain ⟨s, g, j⟩ := aQ.1 h1
  obtain ⟨p, o, q⟩ := aQ.1 g
  exact ⟨s, j.symm, by rw [← q]; exact y p o⟩
 have d : ∀ x ∈ es.toList, ∃ s : ByteArray, x.key = .string s ∧ Go.WideElems.rd (H := Unit) P kt (fun _ => some (.lit (.bool true), [])) x = some (.string s.data.toList, .lit (.bool true)) := fun x i => by
  obtain ⟨s, h1, g⟩ := m x i
  refine ⟨s, h1, ?_⟩
  simp [Go.WideElems.rd, keyOf, z, mapKey, h1, g]
 refine ⟨_, ⟨es, clock, t, ⟨by rw [h.length]; exact u, ⟨h.lt, ?_, ?_⟩, fun x i => ?_⟩, aJ _, rfl⟩, ?_, ?_⟩
 ·have := h.born
  rw [List.Nodup, dX]
  exact this.imp (fun {a b} h => by omega)
 ·rw [c]
  rw [List.Nodup, dX]
  exact w.imp (fun {a b} k e => k (by injection e))
 ·obtain ⟨s, _, g⟩ := d x i
  exact ⟨_, g⟩
 ·have h1 := (sorted_perm (es.toList.map (Go.WideElems.rg (H := Unit) P kt (fun _ => some (.lit (.bool true), []))))).map (fun p => strOf p.1)
  refine List.Perm.trans h1 ?_
  have e : (es.toList.map (Go.WideElems.rg (H := Unit) P kt (fun _ => some (.lit (.bool true), [])))).map (fun p => strOf p.1) = l.map (fun p => p.1.data.toList) := by
   have n : (es.toList.map (Go.WideElems.rg (H := Unit) P kt (fun _ => some (.lit (.bool true), [])))).map (fun p => strOf p.1) = (es.toList.map (·.key)).map (fun v => match v with | .string s => s.data.toList | _ => []) := by
    rw [cO, cO]
    refine List.map_congr_left fun x i => ?_
    obtain ⟨s, g, j⟩ := d x i
    simp [Go.WideElems.rg, j, g, strOf]
   rw [n, c, cO, cO]
   rfl
  rw [e]
 ·have h1 := (sorted_perm (es.toList.map (Go.WideElems.rg (H := Unit) P kt (fun _ => some (.lit (.bool true), []))))).length_eq
  show (List.foldr DataW.insert [] _).length = _
  rw [h1, cL, ← h.length]
  simp
theorem HV {l : List ByteArray} {g : List (List UInt8)} (h : g.Perm (l.map fun b => b.data.toList)) : g.mergeSort (fun x y => decide (x ≤ y)) = (mL l).map (fun b => b.data.toList) := by
 rw [Is]
 have le : ∀ a b c : List UInt8, decide (a ≤ b) = true → decide (b ≤ c) = true → decide (a ≤ c) = true := fun a b c h1 d => by
  simp only [bz] at *
  exact List.le_trans h1 d
 have tot : ∀ a b : List UInt8, (decide (a ≤ b) || decide (b ≤ a)) = true := fun a b => by
  simp only [dO, bz]
  exact List.le_total a b
 refine List.Perm.eq_of_pairwise (le := fun a b => decide (a ≤ b) = true) (fun a b _ _ h1 d => List.le_antisymm (by simpa using h1) (by simpa using d)) (eX le tot _) (eX le tot _) ?_
 exact (gk _ _).trans (h.trans (gk _ _).symm)
section
variable {P : Program} {ρk ρt ρm : Ren}
theorem JT (LK : SlLaysZ.n7 P ρk) (LT : SlLaysZ.n6 P ρt) (LM : SlLaysM.n6 P ρm) (h9 : ρt.f 9 = ρm.f 6) (hK : P.underlying (ρk.t 26) = some .string) (eg : ∀ args w, (callFunc (ρk.f 10) args).run P w = .ok (.enter (ρk.f 10) args) w) (es : ∀ args w, (callFunc (ρt.f 9) args).run P w = .ok (.enter (ρt.f 9) args) w) {β : Type} {vf : β → Value} {l : List (ByteArray × β)} {b : Nat} {mv : Value} {t : TypeId} {W : World} {r : List ByteArray} (u : W.heap[b]? = some (.cells #[mv] t (0, 0))) (hm : tX Value.string vf (hp W) mv l) (hk : FF l = some r) :
  jZ false P (ρt.f 6) [.func (.func (ρk.f 10)) #[] #[.pointer (some ⟨b, 0, none⟩)]] W (ρt.t 26) lE 1 r := by
 unfold FF at hk
 split at hk
 case isFalse => cases hk
 rename_i hc
 obtain ⟨U, Y, Z⟩ := hc
 cases hk
 have i : b < W.heap.size := (bD.1 u).1
 have c : W.cell? ⟨b, 0, none⟩ = some mv := by simp [World.cell?, u]
 have q : AnyZ.SortsIn P ρt Fence.wide 4 :=
  ⟨fun M off cap d W hH hblk s => callsIn_wide.2 (by rw [h9]; exact AnyM.slices_Sort_string LM M off cap d W hH hblk s), fun p cap W => callsIn_wide.2 (by rw [h9]; exact AnyM.slices_Sort_string_none LM p cap W)⟩
 have I : SeqGives Fence.wide 2 P (ρk.f 10) #[.pointer (some ⟨b, 0, none⟩)] encStr (fun d => d.Perm ((l.map (·.1)).map fun b => b.data.toList)) l.length W := by
  rcases hm with ⟨rfl, rfl⟩ | ⟨m, es, clock, rfl, a7, A⟩
  ·have := AnyZ.keys_gives_nil (ρ := ρk) { LK with } Fence.wide 2 trivial rfl b W i c
   intro l' J W' R Q T L
   refine CallsIn.mono (this l' J W' R Q T L) ?_
   rintro e w' ⟨hv, d, rfl, hj⟩
   exact ⟨hv, [], cP _, hj⟩
  ·obtain ⟨D, E, n, s⟩ := J3 hK A U Y (by unfold maxLen; omega) a7
   have := AnyZ.keys_gives (ρ := ρk) { LK with } Fence.wide 2 trivial rfl (by omega) b m es.size D W i c E
   intro l' J W' R Q T L
   refine CallsIn.mono (this l' J W' R Q (by rw [s]; exact T) L) ?_
   rintro e w' ⟨hv, d, hp, hj⟩
   refine ⟨hv, d, ?_, hj⟩
   rw [cO]
   exact hp.trans n
 have cS := AnyZ.sorted_in LT Fence.wide 5 trivial trivial trivial trivial rfl (by omega) q es (ρk.f 10) #[.pointer (some ⟨b, 0, none⟩)] trivial eg _ l.length (by unfold maxLen; omega) Z W I
 refine bp (callsIn_wide.1 cS) ?_
 rintro e w' ⟨v, d, rfl, hS, G, ab, a⟩
 have hs := HV hS
 have hlen : d.length = (mL (l.map (·.1))).length := by
  have := aw List.length hs
  simpa using this
 have k : (d.mergeSort (fun x y => decide (x ≤ y))).map encStr = ((mL (l.map (·.1))).map lE).flatten := by
  rw [hs, Ik, cO]
  refine List.map_congr_left (fun x _ => ?_)
  simp only [Function.comp, encStr]
 rcases G.2 with ⟨rfl, L⟩ | ⟨g, cap, z, rfl, j, hg, ad, a1, a6, a8⟩
 ·have : mL (l.map (·.1)) = [] := aX (by omega)
  rw [this]
  exact ⟨_, [], rfl, pX.Ib ⟨a.os, a.tape, a.output, fun h => (by cases h), a.size, fun b u => a.block b u⟩ (fun _ _ h => by cases h) (by simp), jl.nil _ _ _⟩
 ·refine ⟨_, [(g, .cells z (ρt.t 26) (0, 0))], rfl, pX.Ib ⟨a.os, a.tape, a.output, fun h => (by cases h), a.size, fun b u => a.block b u⟩ (fun b o h => by simp at h; obtain ⟨rfl, rfl⟩ := h; exact ⟨hg, j⟩) (by simp), .inr ⟨g, cap, z, by rw [hlen], rfl, by omega, a1, a6, ?_⟩⟩
  rw [← hlen, a8, k]
end
end Go.Proofs.YtbnbdigcbldfhaaGreat
namespace Go.Proofs.YtbnbdigcbldfhaaGreat
open Go.IntKind renaming wrap → wi0
def dn := @Tryz.underlying9
def dv := @Tryz.zeroValue9
def dE := @Tryz.underlying0
def dP := @Tryz.zeroValue0
def er := @Tryz.underlying4
def et := @Tryz.sizeOf9
def eE := @Tryz.zeroValue4
def eH := @Tryz.underlying215
def eJ := @Tryz.underlying261
def eK := @Tryz.underlying262
def eL := @Tryz.underlying268
def eO := @Tryz.underlying270
def eP := @Tryz.underlying291
def eQ := @Tryz.underlying295
def eS := @Tryz.underlying315
def eT := @Tryz.underlying142
def eY := @Tryz.isAgg9
def fl := @Tryz.sizeOf0
def fp := @Tryz.zeroValue215
def fq := @Tryz.zeroValue261
def ft := @Tryz.zeroValue262
def fu := @Tryz.underlying39
def fw := @Tryz.zeroValue268
def fx := @Tryz.zeroValue270
def fy := @Tryz.zeroValue291
def fz := @Tryz.zeroValue295
def fA := @Tryz.zeroValue315
def fB := @Tryz.zeroValue142
def fO := @Tryz.underlying3
def fP := @Tryz.underlying5
def fQ := @Tryz.zeroValue39
def ga := @Tryz.isAgg0
def gh := @Tryz.zeroValue3
def gi := @Tryz.zeroValue5
def gp := @Tryz.sizeOf4
def gy := @Tryz.sizeOf215
def gz := @Tryz.sizeOf261
def gA := @Tryz.sizeOf262
def gB := @Tryz.sizeOf268
def gC := @Tryz.sizeOf270
def gD := @Tryz.sizeOf291
def gE := @Tryz.sizeOf295
def gF := @Tryz.sizeOf315
def gG := @Tryz.sizeOf142
def gH := @Tryz.underlying112
def gP := @Tryz.isAgg4
def gQ := @Tryz.zeroValue112
def gW := @Tryz.isAgg215
def gX := @Tryz.isAgg261
def gZ := @Tryz.isAgg262
def hZ := @Tryz.sizeOf39
def ia := @Tryz.isAgg268
def ib := @Tryz.isAgg270
def ic := @Tryz.isAgg291
def ie := @Tryz.isAgg295
def ig := @Tryz.isAgg315
def ij := @Tryz.isAgg142
def iw := @Tryz.sizeOf3
def iy := @Tryz.sizeOf5
def iz := @Tryz.isAgg39
def iL := @Tryz.isAgg3
def iM := @Tryz.isAgg5
def MC : Go.Shelf.Ren := ⟨fun | 6 => 116 | 15 => 179 | 14 => 178 | 28 => 225 | 29 => 226 | 20 => 217 | 21 => 218 | 22 => 219 | 23 => 220 | 24 => 221 | 25 => 222 | 26 => 223 | 27 => 224 | 46 => 255 | 47 => 256 | 48 => 257 | 49 => 258 | 50 => 259 | 57 => 290 | n => n, fun | 22 => 22 | 24 => 108 | 25 => 133 | 3 => 3 | 39 => 215 | 0 => 0 | 53 => 268 | 55 => 270 | 4 => 4 | 46 => 262 | 45 => 261 | 50 => 39 | 5 => 5 | 9 => 9 | 66 => 291 | 70 => 295 | 76 => 315 | 77 => 142 | n => n, fun | n => n⟩
theorem QP : Go.Proofs.SlLaysF0.n6 Tryz.prog MC := {
 mixed := by kernel_rfl,
 f6 := ⟨Tryz.f116.name, by decide, Tryz.func116.trans (aw some (by kernel_rfl))⟩,
 f14 := ⟨Tryz.f178.name, by decide, Tryz.func178.trans (aw some (by kernel_rfl))⟩,
 f15 := Tryz.func179.trans (aw some (by kernel_rfl)),
 f20 := ⟨Tryz.f217.name, by decide, Tryz.func217.trans (aw some (by kernel_rfl))⟩,
 f21 := ⟨Tryz.f218.name, by decide, Tryz.func218.trans (aw some (by kernel_rfl))⟩,
 f22 := ⟨Tryz.f219.name, by decide, Tryz.func219.trans (aw some (by kernel_rfl))⟩,
 f23 := ⟨Tryz.f220.name, by decide, Tryz.func220.trans (aw some (by kernel_rfl))⟩,
 f24 := ⟨Tryz.f221.name, by decide, Tryz.func221.trans (aw some (by kernel_rfl))⟩,
 f25 := ⟨Tryz.f222.name, by decide, Tryz.func222.trans (aw some (by kernel_rfl))⟩,
 f26 := ⟨Tryz.f223.name, by decide, Tryz.func223.trans (aw some (by kernel_rfl))⟩,
 f27 := ⟨Tryz.f224.name, by decide, Tryz.func224.trans (aw some (by kernel_rfl))⟩,
 f28 := Tryz.func225.trans (aw some (by kernel_rfl)),
 f29 := Tryz.func226.trans (aw some (by kernel_rfl)),
 f46 := ⟨Tryz.f255.name, by decide, Tryz.func255.trans (aw some (by kernel_rfl))⟩,
 f47 := Tryz.func256.trans (aw some (by kernel_rfl)),
 f48 := Tryz.func257.trans (aw some (by kernel_rfl)),
 f49 := ⟨Tryz.f258.name, by decide, Tryz.func258.trans (aw some (by kernel_rfl))⟩,
 f50 := ⟨Tryz.f259.name, by decide, Tryz.func259.trans (aw some (by kernel_rfl))⟩,
 f57 := ⟨Tryz.f290.name, by decide, Tryz.func290.trans (aw some (by kernel_rfl))⟩,
 t0 := dE,
 a0 := ga,
 z0 := fl,
 v0 := dP,
 t3 := fO,
 a3 := iL,
 z3 := iw,
 v3 := gh,
 t4 := er,
 a4 := gP,
 z4 := gp,
 v4 := eE,
 t5 := fP,
 a5 := iM,
 z5 := iy,
 v5 := gi,
 t9 := dn,
 a9 := eY,
 z9 := et,
 v9 := dv,
 t22 := Tryz.underlying22,
 a22 := Tryz.isAgg22,
 z22 := Tryz.sizeOf22,
 v22 := Tryz.zeroValue22,
 t25 := Tryz.underlying133,
 a25 := Tryz.isAgg133,
 z25 := Tryz.sizeOf133,
 v25 := Tryz.zeroValue133,
 t39 := eH,
 a39 := gW,
 z39 := gy,
 v39 := fp,
 t45 := eJ,
 a45 := gX,
 z45 := gz,
 v45 := fq,
 t46 := eK,
 a46 := gZ,
 z46 := gA,
 v46 := ft,
 t50 := fu,
 a50 := iz,
 z50 := hZ,
 v50 := fQ,
 t53 := eL,
 a53 := ia,
 z53 := gB,
 v53 := fw,
 t55 := eO,
 a55 := ib,
 z55 := gC,
 v55 := fx,
 t66 := eP,
 a66 := ic,
 z66 := gD,
 v66 := fy,
 t70 := eQ,
 a70 := ie,
 z70 := gE,
 v70 := fz,
 t76 := eS,
 a76 := ig,
 z76 := gF,
 v76 := fA,
 t77 := eT,
 a77 := ij,
 z77 := gG,
 v77 := fB}
def Nx : Go.Shelf.Ren := ⟨fun | 6 => 276 | 15 => 179 | 14 => 296 | 28 => 225 | 29 => 226 | 20 => 301 | 21 => 302 | 22 => 303 | 23 => 304 | 24 => 305 | 25 => 306 | 26 => 307 | 27 => 308 | 46 => 310 | 47 => 256 | 48 => 257 | 49 => 311 | 50 => 312 | 57 => 313 | n => n, fun | 22 => 34 | 24 => 28 | 25 => 118 | 3 => 3 | 39 => 215 | 0 => 0 | 53 => 268 | 55 => 270 | 4 => 4 | 46 => 262 | 45 => 261 | 50 => 39 | 5 => 5 | 9 => 9 | 66 => 291 | 70 => 295 | 76 => 315 | 77 => 142 | n => n, fun | n => n⟩
theorem Qo : Go.Proofs.SlLaysF0.n6 Tryz.prog Nx := {
 mixed := by kernel_rfl,
 f6 := ⟨Tryz.f276.name, by decide, Tryz.func276.trans (aw some (by kernel_rfl))⟩,
 f14 := ⟨Tryz.f296.name, by decide, Tryz.func296.trans (aw some (by kernel_rfl))⟩,
 f15 := Tryz.func179.trans (aw some (by kernel_rfl)),
 f20 := ⟨Tryz.f301.name, by decide, Tryz.func301.trans (aw some (by kernel_rfl))⟩,
 f21 := ⟨Tryz.f302.name, by decide, Tryz.func302.trans (aw some (by kernel_rfl))⟩,
 f22 := ⟨Tryz.f303.name, by decide, Tryz.func303.trans (aw some (by kernel_rfl))⟩,
 f23 := ⟨Tryz.f304.name, by decide, Tryz.func304.trans (aw some (by kernel_rfl))⟩,
 f24 := ⟨Tryz.f305.name, by decide, Tryz.func305.trans (aw some (by kernel_rfl))⟩,
 f25 := ⟨Tryz.f306.name, by decide, Tryz.func306.trans (aw some (by kernel_rfl))⟩,
 f26 := ⟨Tryz.f307.name, by decide, Tryz.func307.trans (aw some (by kernel_rfl))⟩,
 f27 := ⟨Tryz.f308.name, by decide, Tryz.func308.trans (aw some (by kernel_rfl))⟩,
 f28 := Tryz.func225.trans (aw some (by kernel_rfl)),
 f29 := Tryz.func226.trans (aw some (by kernel_rfl)),
 f46 := ⟨Tryz.f310.name, by decide, Tryz.func310.trans (aw some (by kernel_rfl))⟩,
 f47 := Tryz.func256.trans (aw some (by kernel_rfl)),
 f48 := Tryz.func257.trans (aw some (by kernel_rfl)),
 f49 := ⟨Tryz.f311.name, by decide, Tryz.func311.trans (aw some (by kernel_rfl))⟩,
 f50 := ⟨Tryz.f312.name, by decide, Tryz.func312.trans (aw some (by kernel_rfl))⟩,
 f57 := ⟨Tryz.f313.name, by decide, Tryz.func313.trans (aw some (by kernel_rfl))⟩,
 t0 := dE,
 a0 := ga,
 z0 := fl,
 v0 := dP,
 t3 := fO,
 a3 := iL,
 z3 := iw,
 v3 := gh,
 t4 := er,
 a4 := gP,
 z4 := gp,
 v4 := eE,
 t5 := fP,
 a5 := iM,
 z5 := iy,
 v5 := gi,
 t9 := dn,
 a9 := eY,
 z9 := et,
 v9 := dv,
 t22 := Tryz.underlying34,
 a22 := Tryz.isAgg34,
 z22 := Tryz.sizeOf34,
 v22 := Tryz.zeroValue34,
 t25 := Tryz.underlying118,
 a25 := Tryz.isAgg118,
 z25 := Tryz.sizeOf118,
 v25 := Tryz.zeroValue118,
 t39 := eH,
 a39 := gW,
 z39 := gy,
 v39 := fp,
 t45 := eJ,
 a45 := gX,
 z45 := gz,
 v45 := fq,
 t46 := eK,
 a46 := gZ,
 z46 := gA,
 v46 := ft,
 t50 := fu,
 a50 := iz,
 z50 := hZ,
 v50 := fQ,
 t53 := eL,
 a53 := ia,
 z53 := gB,
 v53 := fw,
 t55 := eO,
 a55 := ib,
 z55 := gC,
 v55 := fx,
 t66 := eP,
 a66 := ic,
 z66 := gD,
 v66 := fy,
 t70 := eQ,
 a70 := ie,
 z70 := gE,
 v70 := fz,
 t76 := eS,
 a76 := ig,
 z76 := gF,
 v76 := fA,
 t77 := eT,
 a77 := ij,
 z77 := gG,
 v77 := fB}
def M6 : Go.Shelf.Ren := ⟨fun | 6 => 182 | 8 => 179 | 9 => 229 | 19 => 225 | 20 => 226 | 21 => 260 | 22 => 261 | 23 => 262 | 24 => 263 | 25 => 264 | 26 => 265 | 27 => 266 | 28 => 267 | 29 => 268 | 36 => 291 | 31 => 256 | 32 => 257 | 37 => 292 | 38 => 293 | 39 => 294 | 41 => 300 | n => n, fun | 27 => 112 | 29 => 9 | 3 => 3 | 32 => 215 | 26 => 112 | 0 => 0 | 44 => 268 | 46 => 270 | 4 => 4 | 36 => 262 | 35 => 261 | 41 => 39 | 5 => 5 | 9 => 9 | 53 => 291 | 57 => 295 | 63 => 315 | 64 => 142 | n => n, fun | n => n⟩
theorem NN : Go.Proofs.SlLaysM.n6 Tryz.prog M6 := {
 mixed := by kernel_rfl,
 f6 := ⟨Tryz.f182.name, by decide, Tryz.func182.trans (aw some (by kernel_rfl))⟩,
 f8 := Tryz.func179.trans (aw some (by kernel_rfl)),
 f9 := ⟨Tryz.f229.name, by decide, Tryz.func229.trans (aw some (by kernel_rfl))⟩,
 f19 := Tryz.func225.trans (aw some (by kernel_rfl)),
 f20 := Tryz.func226.trans (aw some (by kernel_rfl)),
 f21 := ⟨Tryz.f260.name, by decide, Tryz.func260.trans (aw some (by kernel_rfl))⟩,
 f22 := ⟨Tryz.f261.name, by decide, Tryz.func261.trans (aw some (by kernel_rfl))⟩,
 f23 := ⟨Tryz.f262.name, by decide, Tryz.func262.trans (aw some (by kernel_rfl))⟩,
 f24 := ⟨Tryz.f263.name, by decide, Tryz.func263.trans (aw some (by kernel_rfl))⟩,
 f25 := ⟨Tryz.f264.name, by decide, Tryz.func264.trans (aw some (by kernel_rfl))⟩,
 f26 := ⟨Tryz.f265.name, by decide, Tryz.func265.trans (aw some (by kernel_rfl))⟩,
 f27 := ⟨Tryz.f266.name, by decide, Tryz.func266.trans (aw some (by kernel_rfl))⟩,
 f28 := ⟨Tryz.f267.name, by decide, Tryz.func267.trans (aw some (by kernel_rfl))⟩,
 f29 := ⟨Tryz.f268.name, by decide, Tryz.func268.trans (aw some (by kernel_rfl))⟩,
 f31 := Tryz.func256.trans (aw some (by kernel_rfl)),
 f32 := Tryz.func257.trans (aw some (by kernel_rfl)),
 f36 := ⟨Tryz.f291.name, by decide, Tryz.func291.trans (aw some (by kernel_rfl))⟩,
 f37 := ⟨Tryz.f292.name, by decide, Tryz.func292.trans (aw some (by kernel_rfl))⟩,
 f38 := ⟨Tryz.f293.name, by decide, Tryz.func293.trans (aw some (by kernel_rfl))⟩,
 f39 := ⟨Tryz.f294.name, by decide, Tryz.func294.trans (aw some (by kernel_rfl))⟩,
 f41 := ⟨Tryz.f300.name, by decide, Tryz.func300.trans (aw some (by kernel_rfl))⟩,
 t0 := dE,
 a0 := ga,
 z0 := fl,
 v0 := dP,
 t3 := fO,
 a3 := iL,
 z3 := iw,
 v3 := gh,
 t4 := er,
 a4 := gP,
 z4 := gp,
 v4 := eE,
 t5 := fP,
 a5 := iM,
 z5 := iy,
 v5 := gi,
 t9 := dn,
 a9 := eY,
 z9 := et,
 v9 := dv,
 t26 := gH,
 a26 := Tryz.isAgg112,
 z26 := Tryz.sizeOf112,
 v26 := gQ,
 t27 := gH,
 a27 := Tryz.isAgg112,
 z27 := Tryz.sizeOf112,
 v27 := gQ,
 t29 := dn,
 a29 := eY,
 z29 := et,
 v29 := dv,
 t32 := eH,
 a32 := gW,
 z32 := gy,
 v32 := fp,
 t35 := eJ,
 a35 := gX,
 z35 := gz,
 v35 := fq,
 t36 := eK,
 a36 := gZ,
 z36 := gA,
 v36 := ft,
 t41 := fu,
 a41 := iz,
 z41 := hZ,
 v41 := fQ,
 t44 := eL,
 a44 := ia,
 z44 := gB,
 v44 := fw,
 t46 := eO,
 a46 := ib,
 z46 := gC,
 v46 := fx,
 t53 := eP,
 a53 := ic,
 z53 := gD,
 v53 := fy,
 t57 := eQ,
 a57 := ie,
 z57 := gE,
 v57 := fz,
 t63 := eS,
 a63 := ig,
 z63 := gF,
 v63 := fA,
 t64 := eT,
 a64 := ij,
 z64 := gG,
 v64 := fB}
def PE : Go.Shelf.Ren := ⟨fun | 7 => 120 | 10 => 183 | n => n, fun | 23 => 175 | 26 => 9 | 3 => 4 | 28 => 180 | 0 => 0 | 27 => 179 | 33 => 194 | 4 => 4 | n => n, fun | n => n⟩
theorem PD : Go.Proofs.SlLaysZ.n7 Tryz.prog PE := {
 mixed := by kernel_rfl,
 f7 := ⟨Tryz.f120.name, by decide, Tryz.func120.trans (aw some (by kernel_rfl))⟩,
 f10 := ⟨Tryz.f183.name, by decide, Tryz.func183.trans (aw some (by kernel_rfl))⟩,
 t0 := dE,
 a0 := ga,
 z0 := fl,
 v0 := dP,
 t4 := er,
 a4 := gP,
 z4 := gp,
 v4 := eE,
 t23 := Tryz.underlying175,
 a23 := Tryz.isAgg175,
 z23 := Tryz.sizeOf175,
 v23 := Tryz.zeroValue175,
 t26 := dn,
 a26 := eY,
 z26 := et,
 v26 := dv,
 t27 := Tryz.underlying179,
 a27 := Tryz.isAgg179,
 z27 := Tryz.sizeOf179,
 v27 := Tryz.zeroValue179,
 t28 := Tryz.underlying180,
 a28 := Tryz.isAgg180,
 z28 := Tryz.sizeOf180,
 v28 := Tryz.zeroValue180,
 t33 := Tryz.underlying194,
 a33 := Tryz.isAgg194,
 z33 := Tryz.sizeOf194,
 v33 := Tryz.zeroValue194}
def PU : Go.Shelf.Ren := ⟨fun | 6 => 119 | 8 => 181 | 9 => 182 | 11 => 228 | 13 => 179 | 12 => 229 | 23 => 225 | 24 => 226 | 14 => 260 | 15 => 261 | 16 => 262 | 17 => 263 | 18 => 264 | 19 => 265 | 20 => 266 | 21 => 267 | 22 => 268 | 25 => 291 | 26 => 256 | 27 => 257 | 28 => 292 | 29 => 293 | 30 => 294 | 31 => 300 | n => n, fun | 26 => 9 | 28 => 180 | 24 => 112 | 0 => 0 | 3 => 3 | 37 => 215 | 48 => 268 | 50 => 270 | 4 => 4 | 40 => 262 | 39 => 261 | 45 => 39 | 5 => 5 | 9 => 9 | 51 => 291 | 55 => 295 | 57 => 315 | 58 => 142 | 33 => 194 | n => n, fun | n => n⟩
theorem Qd : Go.Proofs.SlLaysZ.n6 Tryz.prog PU := {
 mixed := by kernel_rfl,
 f6 := ⟨Tryz.f119.name, by decide, Tryz.func119.trans (aw some (by kernel_rfl))⟩,
 f8 := ⟨Tryz.f181.name, by decide, Tryz.func181.trans (aw some (by kernel_rfl))⟩,
 f11 := ⟨Tryz.f228.name, by decide, Tryz.func228.trans (aw some (by kernel_rfl))⟩,
 t0 := dE,
 a0 := ga,
 z0 := fl,
 v0 := dP,
 t24 := gH,
 a24 := Tryz.isAgg112,
 z24 := Tryz.sizeOf112,
 v24 := gQ,
 t26 := dn,
 a26 := eY,
 z26 := et,
 v26 := dv,
 t28 := Tryz.underlying180,
 a28 := Tryz.isAgg180,
 z28 := Tryz.sizeOf180,
 v28 := Tryz.zeroValue180,
 i26 := by kernel_rfl}
def M3 : Go.Shelf.Ren := ⟨fun | 6 => 195 | 15 => 179 | 14 => 244 | 28 => 225 | 29 => 226 | 20 => 278 | 21 => 279 | 22 => 280 | 23 => 281 | 24 => 282 | 25 => 283 | 26 => 284 | 27 => 285 | 46 => 297 | 47 => 256 | 48 => 257 | 49 => 298 | 50 => 299 | 57 => 309 | n => n, fun | 22 => 99 | 24 => 34 | 25 => 246 | 3 => 3 | 39 => 215 | 0 => 0 | 53 => 268 | 55 => 270 | 4 => 4 | 46 => 262 | 45 => 261 | 50 => 39 | 5 => 5 | 9 => 9 | 66 => 291 | 70 => 295 | 76 => 315 | 77 => 142 | n => n, fun | n => n⟩
theorem QL : Go.Proofs.SlLaysF.n6 Tryz.prog M3 := {
 mixed := by kernel_rfl,
 f6 := ⟨Tryz.f195.name, by decide, Tryz.func195.trans (aw some (by kernel_rfl))⟩,
 f14 := ⟨Tryz.f244.name, by decide, Tryz.func244.trans (aw some (by kernel_rfl))⟩,
 f15 := Tryz.func179.trans (aw some (by kernel_rfl)),
 f20 := ⟨Tryz.f278.name, by decide, Tryz.func278.trans (aw some (by kernel_rfl))⟩,
 f21 := ⟨Tryz.f279.name, by decide, Tryz.func279.trans (aw some (by kernel_rfl))⟩,
 f22 := ⟨Tryz.f280.name, by decide, Tryz.func280.trans (aw some (by kernel_rfl))⟩,
 f23 := ⟨Tryz.f281.name, by decide, Tryz.func281.trans (aw some (by kernel_rfl))⟩,
 f24 := ⟨Tryz.f282.name, by decide, Tryz.func282.trans (aw some (by kernel_rfl))⟩,
 f25 := ⟨Tryz.f283.name, by decide, Tryz.func283.trans (aw some (by kernel_rfl))⟩,
 f26 := ⟨Tryz.f284.name, by decide, Tryz.func284.trans (aw some (by kernel_rfl))⟩,
 f27 := ⟨Tryz.f285.name, by decide, Tryz.func285.trans (aw some (by kernel_rfl))⟩,
 f28 := Tryz.func225.trans (aw some (by kernel_rfl)),
 f29 := Tryz.func226.trans (aw some (by kernel_rfl)),
 f46 := ⟨Tryz.f297.name, by decide, Tryz.func297.trans (aw some (by kernel_rfl))⟩,
 f47 := Tryz.func256.trans (aw some (by kernel_rfl)),
 f48 := Tryz.func257.trans (aw some (by kernel_rfl)),
 f49 := ⟨Tryz.f298.name, by decide, Tryz.func298.trans (aw some (by kernel_rfl))⟩,
 f50 := ⟨Tryz.f299.name, by decide, Tryz.func299.trans (aw some (by kernel_rfl))⟩,
 f57 := ⟨Tryz.f309.name, by decide, Tryz.func309.trans (aw some (by kernel_rfl))⟩,
 t0 := dE,
 a0 := ga,
 z0 := fl,
 v0 := dP,
 t3 := fO,
 a3 := iL,
 z3 := iw,
 v3 := gh,
 t4 := er,
 a4 := gP,
 z4 := gp,
 v4 := eE,
 t5 := fP,
 a5 := iM,
 z5 := iy,
 v5 := gi,
 t9 := dn,
 a9 := eY,
 z9 := et,
 v9 := dv,
 t22 := Tryz.underlying99,
 a22 := Tryz.isAgg99,
 z22 := Tryz.sizeOf99,
 v22 := Tryz.zeroValue99,
 a24 := Tryz.isAgg34,
 z24 := Tryz.sizeOf34,
 t25 := Tryz.underlying246,
 a25 := Tryz.isAgg246,
 z25 := Tryz.sizeOf246,
 v25 := Tryz.zeroValue246,
 t39 := eH,
 a39 := gW,
 z39 := gy,
 v39 := fp,
 t45 := eJ,
 a45 := gX,
 z45 := gz,
 v45 := fq,
 t46 := eK,
 a46 := gZ,
 z46 := gA,
 v46 := ft,
 t50 := fu,
 a50 := iz,
 z50 := hZ,
 v50 := fQ,
 t53 := eL,
 a53 := ia,
 z53 := gB,
 v53 := fw,
 t55 := eO,
 a55 := ib,
 z55 := gC,
 v55 := fx,
 t66 := eP,
 a66 := ic,
 z66 := gD,
 v66 := fy,
 t70 := eQ,
 a70 := ie,
 z70 := gE,
 v70 := fz,
 t76 := eS,
 a76 := ig,
 z76 := gF,
 v76 := fA,
 t77 := eT,
 a77 := ij,
 z77 := gG,
 v77 := fB}
end Go.Proofs.YtbnbdigcbldfhaaGreat
namespace Go.Proofs.YtbnbdigcbldfhaaGreat
open Go.IntKind renaming wrap → wi0
open Go.RowKit
set_option maxRecDepth 10000
noncomputable section
structure iR where
 ja : ByteArray
 jt : ByteArray
def iT (x : iR) : List Value := [.string x.ja, .string x.jt]
def jh (x y : iR) : Bool := (kc x.ja y.ja) && ((kc x.jt y.jt) && true)
theorem jr {x y : iR} : jh x y = true ↔ x = y := by
 cases x; cases y; simp [jh, kG]
theorem lp (x : iR) : (iT x).length = 2 := rfl
theorem lh (x : iR) : ∀ u ∈ iT x, u.oneCell' = true := by
 intro u hu
 simp only [iT, ay, cj, eo] at hu
 rcases hu with rfl | rfl <;> rfl
structure iS where
 Kind : Int
 Head : iR
 jA : ByteArray
 B : iR
 C : iR
 jU : ByteArray
def iX (x : iS) : List Value := [.int .i64 x.Kind, .string x.Head.ja, .string x.Head.jt, .string x.jA, .string x.B.ja, .string x.B.jt, .string x.C.ja, .string x.C.jt, .string x.jU]
def mz (x y : iS) : Bool := (x.Kind == y.Kind) && ((jh x.Head y.Head) && ((kc x.jA y.jA) && ((jh x.B y.B) && ((jh x.C y.C) && ((kc x.jU y.jU) && true)))))
theorem tQ {x y : iS} : mz x y = true ↔ x = y := by
 cases x; cases y; simp [mz, kG, jr]
theorem kU (x : iS) : (iX x).length = 9 := rfl
theorem mx (x : iS) : ∀ u ∈ iX x, u.oneCell' = true := by
 intro u hu
 simp only [iX, ay, cj, eo] at hu
 rcases hu with rfl | rfl | rfl | rfl | rfl | rfl | rfl | rfl | rfl <;> rfl
structure iV where
 iR : iR
 jA : ByteArray
def je (x : iV) : List Value := [.string x.iR.ja, .string x.iR.jt, .string x.jA]
def lf (x y : iV) : Bool := (jh x.iR y.iR) && ((kc x.jA y.jA) && true)
theorem kO {x y : iV} : lf x y = true ↔ x = y := by
 cases x; cases y; simp [lf, kG, jr]
theorem lJ (x : iV) : (je x).length = 3 := rfl
theorem uW (x : iV) : ∀ u ∈ je x, u.oneCell' = true := by
 intro u hu
 simp only [je, ay, cj, eo] at hu
 rcases hu with rfl | rfl | rfl <;> rfl
structure jk where
 iS : iS
 iV : iV
def ji (x : jk) : List Value := [.int .i64 x.iS.Kind, .string x.iS.Head.ja, .string x.iS.Head.jt, .string x.iS.jA, .string x.iS.B.ja, .string x.iS.B.jt, .string x.iS.C.ja, .string x.iS.C.jt, .string x.iS.jU, .string x.iV.iR.ja, .string x.iV.iR.jt, .string x.iV.jA]
def zV (x y : jk) : Bool := (mz x.iS y.iS) && ((lf x.iV y.iV) && true)
theorem EM {x y : jk} : zV x y = true ↔ x = y := by
 cases x; cases y; simp [zV, kG, tQ, kO]
theorem mD (x : jk) : (ji x).length = 12 := rfl
theorem qb (x : jk) : ∀ u ∈ ji x, u.oneCell' = true := by
 intro u hu
 simp only [ji, ay, cj, eo] at hu
 rcases hu with rfl | rfl | rfl | rfl | rfl | rfl | rfl | rfl | rfl | rfl | rfl | rfl <;> rfl
structure Px where
 TF : Int
 TG : Int
structure la where
 e : Int
structure Key where
 jA : ByteArray
 Key : List Int
structure Signed where
 iS : iS
 Tag : List Int
structure Formula where
 Op : Int
 K : Int
 iR : iR
 Kids : List Formula
structure nF where
 Signed : Signed
 lg : Formula
structure ux where
 iR : iR
 lg : Formula
 Ee : List iS
structure mc where
 Name : ByteArray
 pa : List nF
 Aa : List ux
structure Jy where
 ja : mc
 Client : mc
 Formula : Formula
 Qp : Int
 Pn : Px
 KO : Int
 O3 : Int
 MN : Int
 Keys : List Key
structure zg where
 mc : mc
 rU : ByteArray
 Room : Int
 oz : List iS
 Shown : List iS
 lq : List iR
 Ct : List iR
def nc (a0 : ByteArray) (a : Int) : Option Int :=
 some (wu a0 a)
def qp (a0 : ByteArray) (a : Int) : Option Int :=
 ((nc a0 a).bind fun c => some c)
def uk  : List Int → Option Bool
 | [] => some true
 | d :: a => ((qp (⟨#[97, 98, 99, 100, 101, 102, 103, 104, 105, 106, 107, 108, 109, 110, 111, 112, 113, 114, 115, 116, 117, 118, 119, 120, 121, 122, 48, 49, 50, 51, 52, 53, 54, 55, 56, 57, 45]⟩ : ByteArray) d).bind fun c => (if (decide (c < 0)) then some false else (uk a)))
def Bh (a0 : ByteArray) : Option Bool :=
 ((B3 a0).bind fun a => uk a)
def nO (a0 : ByteArray) : Option Bool :=
 ((if (decide ((a0.size : Int) ≥ 1)) then some (decide ((a0.size : Int) ≤ 16)) else some false).bind fun x2 => ((if x2 then ((zn a0 0).bind fun a => ((qp (⟨#[97, 98, 99, 100, 101, 102, 103, 104, 105, 106, 107, 108, 109, 110, 111, 112, 113, 114, 115, 116, 117, 118, 119, 120, 121, 122]⟩ : ByteArray) (a.toNat : Int)).bind fun d => some (decide (d ≥ 0)))) else some false).bind fun g => ((if g then ((Bh a0).bind fun c => some c) else some false).bind fun h => some h)))
def nq (a0 : List Int) : Option (List Int) :=
 ((kR 1 ([]) a0).bind fun a => some a)
def nl (a0 : iR) : Option Bool :=
 ((nO a0.ja).bind fun d => ((if d then ((nO a0.jt).bind fun a => some a) else some false).bind fun c => some c))
def lU (a0 a : ByteArray) : Option Int :=
 some (nJ a0 a)
def ov (a0 a : ByteArray) : Option Int :=
 ((lU a0 a).bind fun c => some c)
def rq  : List Int → Option Int
 | [] => some 0
 | a :: c => (if (a != 0) then some a else (rq c))
def sx (a0 : List Int) : Option Int :=
 rq a0
def lP (a0 g : iR) : Option Int :=
 ((ov a0.ja g.ja).bind fun a => ((ov a0.jt g.jt).bind fun c => ((sx ([a, c])).bind fun d => some d)))
def nn (a0 : iS) : Option Bool :=
 ((nl a0.Head).bind fun z => (((if (a0.Kind == 1) then ((if z then ((nO a0.jA).bind fun c => some c) else some false).bind fun p => some (Sum.inr (p, (⟨a0.Kind, a0.Head, a0.jA, (⟨zS, zS⟩ : iR), (⟨zS, zS⟩ : iR), zS⟩ : iS)))) else (if (a0.Kind == 2) then ((if z then ((nl a0.B).bind fun d => some d) else some false).bind fun q => some (Sum.inr (q, (⟨a0.Kind, a0.Head, zS, a0.B, (⟨zS, zS⟩ : iR), zS⟩ : iS)))) else (if (a0.Kind == 3) then ((if z then ((nl a0.B).bind fun h => some h) else some false).bind fun t => ((if t then some (kc a0.B.ja a0.Head.ja) else some false).bind fun u => ((if u then ((nO a0.jU).bind fun g => some g) else some false).bind fun v => some (Sum.inr (v, (⟨a0.Kind, a0.Head, zS, a0.B, (⟨zS, zS⟩ : iR), a0.jU⟩ : iS)))))) else (if (a0.Kind == 4) then ((if z then ((nl a0.B).bind fun k => some k) else some false).bind fun w => ((if w then ((nl a0.C).bind fun j => some j) else some false).bind fun x => ((if x then ((lP a0.B a0.C).bind fun i => some (decide (i < 0))) else some false).bind fun y => some (Sum.inr (y, (⟨a0.Kind, a0.Head, zS, a0.B, a0.C, zS⟩ : iS)))))) else some (Sum.inl false))))) : Option (Bool ⊕ (Bool × iS))).bind fun s => match s with | .inl a => some a | .inr (m, n) => ((if m then some (mz n a0) else some false).bind fun o => some o)))
def mu  : Nat → Int → (List Int) → Option (Bool × (List Int))
 | 0, _, _ => none
 | h + 1, a, d => (if (decide (a ≥ 128)) then ((kR 1 d ([(IntKind.u8.wrap (BitVec.ofInt (IntKind.bits .u8) (IntKind.u8.wrap a) ||| BitVec.ofInt (IntKind.bits .u8) 128).toNat)])).bind fun g => (mu h (Int.fdiv a (2 ^ min (Int.toNat 7) (IntKind.bits .i64))) g)) else ((kR 1 d ([(IntKind.u8.wrap a)])).bind fun c => some (true, c)))
def kI (a : List Int) (c : Int) : Option (Bool × (List Int)) :=
 (if (decide (c < 0)) then some (false, a) else mu jM c a)
def ub (a c : List Int) : Option (Bool × (List Int)) :=
 (if (decide ((c.length : Int) > 2048)) then some (false, a) else ((kI a (c.length : Int)).bind fun g => ((kR 1 g.2 c).bind fun d => some (true, d))))
def oT (a : List Int) (i : ByteArray) : Option (Bool × (List Int)) :=
 ((nO i).bind fun j => (((if j then ((B3 i).bind fun g => ((ub a g).bind fun c => some (c.1, c.2))) else some (false, a)) : Option (Bool × (List Int))).bind fun (h, d) => some (h, d)))
def mK (a : List Int) (h : iR) : Option (Bool × (List Int)) :=
 ((nl h).bind fun m => (((if m then ((oT a h.ja).bind fun g => some (g.1, g.2)) else some (false, a)) : Option (Bool × (List Int))).bind fun (j, c) => (((if j then ((oT c h.jt).bind fun d => some (d.1, d.2)) else some (false, c)) : Option (Bool × (List Int))).bind fun (k, i) => some (k, i))))
def nQ (a : List Int) : Option (List Int) :=
 ((nq a).bind fun c => some c)
def sE (a0 : iS) : Option (List Int) :=
 ((nn a0).bind fun n => (if (!n) then some [] else ((kI ([]) a0.Kind).bind fun o => ((mK o.2 a0.Head).bind fun a => (((if (a0.Kind == 1) then ((oT a.2 a0.jA).bind fun g => some g.2) else (if (a0.Kind == 2) then ((mK a.2 a0.B).bind fun h => some h.2) else (if (a0.Kind == 3) then ((mK a.2 a0.B).bind fun i => ((oT i.2 a0.jU).bind fun j => some j.2)) else (if (a0.Kind == 4) then ((mK a.2 a0.B).bind fun k => ((mK k.2 a0.C).bind fun m => some m.2)) else some a.2)))) : Option (List Int)).bind fun c => ((nQ c).bind fun d => some d))))))
def qo (a0 : List iS) : Option (List iS) :=
 ((kR 136 ([]) a0).bind fun a => some a)
def nh (f1 : iS → Option Bool) : List iS → Nat → Option Int
 | [], _ => some (-1)
 | d :: a, i35 => ((f1 d).bind fun c => (if c then some (i35 : Int) else (nh f1 a (i35 + 1))))
def sS (a0 : List iS) (f1 : iS → Option Bool) : Option Int :=
 nh f1 a0 0
def lW (f1 : iS → Option Bool) : Nat → (List iS) → Int → Int → Option (List iS)
 | 0, _, _, _ => none
 | n321 + 1, c, a, d => (if (decide (d < (c.length : Int))) then ((((kx c d).bind fun g => ((f1 g).bind fun i => (if (!i) then ((kx c a).bind fun k => some ((c.set (Int.toNat a) g), (wi0 .i64 (a + 1)))) else some (c, a)))) : Option ((List iS) × Int)).bind fun (h, j) => (lW f1 n321 h j (wi0 .i64 (d + 1)))) else ((lI (decide (0 ≤ a) && decide (a ≤ (c.length : Int)))).bind fun _ => ((lI (decide (0 ≤ a) && decide (a ≤ ((ml c (Int.toNat a) (⟨0, (⟨zS, zS⟩ : iR), zS, (⟨zS, zS⟩ : iR), (⟨zS, zS⟩ : iR), zS⟩ : iS)).length : Int)))).bind fun _ => some ((ml c (Int.toNat a) (⟨0, (⟨zS, zS⟩ : iR), zS, (⟨zS, zS⟩ : iR), (⟨zS, zS⟩ : iR), zS⟩ : iS)).take (Int.toNat a)))))
def pH (a0 : List iS) (f1 : iS → Option Bool) : Option (List iS) :=
 ((sS a0 f1).bind fun a => (if (a == (-1)) then some a0 else lW f1 jM a0 a (wi0 .i64 (a + 1))))
def wY (a0 : iS) : Option Bool :=
 ((nn a0).bind fun a => some (!a))
def xW (a0 a : List Int) : Option Int :=
 some (xn a0 a)
def sv (a0 g : iS) : Option Int :=
 ((sE a0).bind fun a => ((sE g).bind fun c => ((xW a c).bind fun d => some d)))
def mI (c : Int) : Nat → (List iS) → Int → Int → Option ((List iS) × Int)
 | 0, _, _, _ => none
 | i + 1, a, d, g => (if (decide (g < ((a.length - (Int.toNat c) : Nat) : Int))) then ((((kx (a.drop (Int.toNat c)) g).bind fun k => ((kx (a.drop (Int.toNat c)) (wi0 .i64 (g - 1))).bind fun m => (if (!(mz k m)) then ((kx (a.drop (Int.toNat c)) g).bind fun n => ((kx a d).bind fun o => some ((a.set (Int.toNat d) n), (wi0 .i64 (d + 1))))) else some (a, d)))) : Option ((List iS) × Int)).bind fun (h, j) => (mI c i h j (wi0 .i64 (g + 1)))) else some (a, d))
def mP (a0 : List iS) : Nat → Int → Option (List iS)
 | 0, _ => none
 | g + 1, a => (if (decide (a < (a0.length : Int))) then ((kx a0 a).bind fun h => ((kx a0 (wi0 .i64 (a - 1))).bind fun i => (if (mz h i) then ((lI (decide (0 ≤ a) && decide (a ≤ (a0.length : Int)))).bind fun _ => ((mI a jM a0 a 1).bind fun (d, c) => ((lI (decide (0 ≤ c) && decide (c ≤ (d.length : Int)))).bind fun _ => ((lI (decide (0 ≤ c) && decide (c ≤ ((ml d (Int.toNat c) (⟨0, (⟨zS, zS⟩ : iR), zS, (⟨zS, zS⟩ : iR), (⟨zS, zS⟩ : iR), zS⟩ : iS)).length : Int)))).bind fun _ => some ((ml d (Int.toNat c) (⟨0, (⟨zS, zS⟩ : iR), zS, (⟨zS, zS⟩ : iR), (⟨zS, zS⟩ : iR), zS⟩ : iS)).take (Int.toNat c)))))) else (mP a0 g (wi0 .i64 (a + 1)))))) else some a0)
def ry (a0 : List iS) : Option (List iS) :=
 (if (decide ((a0.length : Int) < 2)) then some a0 else mP a0 jM 1)
def xH (a0 : List iS) : Option (List iS) :=
 ((qo a0).bind fun g => ((pH g (fun (x : iS) => wY x)).bind fun a => ((wg (fun (x : (iS × iS)) => sv x.1 x.2) a).bind fun c => ((ry c).bind fun d => some d))))
def oI (d : iS) : List iS → Nat → Option Int
 | [], _ => some (-1)
 | c :: a, i46 => (if (mz d c) then some (i46 : Int) else (oI d a (i46 + 1)))
def vi (a0 : List iS) (a : iS) : Option Int :=
 oI a a0 0
def tO (a0 : List iS) (a : iS) : Option Bool :=
 ((vi a0 a).bind fun c => some (decide (c ≥ 0)))
def wo (a0 : List iS) (a : iS) : Option Bool :=
 ((tO a0 a).bind fun c => some c)
def xC (a0 : iS) : Option (List iR) :=
 ((nn a0).bind fun h => (if (!h) then some [] else (((if (a0.Kind != 1) then ((kR 32 ([a0.Head]) ([a0.B])).bind fun g => some g) else some ([a0.Head])) : Option (List iR)).bind fun a => (((if (a0.Kind == 4) then ((kR 32 a ([a0.C])).bind fun d => some d) else some a) : Option (List iR)).bind fun c => some c))))
def mX (i : iS) (a : List (ByteArray × (List iS))) (g : List iS) : List iR → (List (iR × (List iS))) → Option ((List iS) × (List (iR × (List iS))) × (List (ByteArray × (List iS))))
 | [], c => (if (i.Kind == 3) then ((kR 136 ((ki kc a i.jU).getD []) ([i])).bind fun k => some (g, c, (lZ kc a i.jU k))) else some (g, c, a))
 | d :: h, c => ((kR 136 ((ki jh c d).getD []) ([i])).bind fun j => (mX i a g h (lZ jh c d j)))
def sb (i : List (iR × (List (ByteArray × Bool)))) (a : List iS) (d : List (iR × (List iS))) (c : List (ByteArray × (List iS))) (g : List iV) (m : Int) (j : iS) : Option ((List iS) × (List (iR × (List iS))) × (List (ByteArray × (List iS)))) :=
 ((kR 136 a ([j])).bind fun k => ((xC j).bind fun h => ((lI (decide (0 ≤ 1) && decide (1 ≤ (h.length : Int)))).bind fun _ => mX j c k (h.drop (Int.toNat 1)) d)))
def mn (a : List (iR × (List (ByteArray × Bool)))) (g : List iS) (i : List (iR × (List iS))) (h : List (ByteArray × (List iS))) (c : List iV) (d : Int) (j : iR) (a2 : ByteArray) : Option ((List (iR × (List (ByteArray × Bool)))) × (List iV) × Int) :=
 (if (wj kc ((ki jh a j).getD []) a2 false) then some (a, c, d) else (((if (ki jh a j).isNone then ((Fu jh a j ([])).bind fun k => some k) else some a) : Option (List (iR × (List (ByteArray × Bool))))).bind fun m => ((E2 jh kc m j a2 true).bind fun n => ((kR 48 c ([(⟨j, a2⟩ : iV)])).bind fun o => some (n, o, (wi0 .i64 (d + 1)))))))
def np (a0 : List (ByteArray × Bool)) : Option Unit :=
 some ()
def pv (a : List (iR × (List (ByteArray × Bool)))) (c : List iS) (h : List (iR × (List iS))) (d : List (ByteArray × (List iS))) (g : List iV) (j : Int) (k : iR) : Option (List ByteArray) :=
 ((np ((ki jh a k).getD [])).bind fun m => ((FF ((ki jh a k).getD [])).bind fun i => some i))
def oM (a : List iS) (d : List (iR × (List iS))) (c : List (ByteArray × (List iS))) (a2 : iR) : List ByteArray → (List (iR × (List (ByteArray × Bool)))) → (List iV) → Int → Option ((List (iR × (List (ByteArray × Bool)))) × (List iV) × Int)
 | [], g, h, j => some (g, h, j)
 | m :: k, g, h, j => ((mn g a d c h j a2 m).bind fun i => (oM a d c a2 k i.1 i.2.1 i.2.2))
def sP (h : List (iR × (List (ByteArray × Bool)))) (a : List iS) (g : List (iR × (List iS))) (c : List (ByteArray × (List iS))) (d : List iV) (i : Int) (j a2 : iR) : Option ((List (iR × (List (ByteArray × Bool)))) × (List iV) × Int) :=
 ((pv h a g c d i j).bind fun k => oM a g c a2 k h d i)
def qn (a : List (iR × (List (ByteArray × Bool)))) (d : List iS) (h : List (iR × (List iS))) (g : List (ByteArray × (List iS))) (c : List iV) (i : Int) (j : iS) (a2 : iV) : Option ((List (iR × (List (ByteArray × Bool)))) × (List iV) × Int) :=
 (if (j.Kind == 2) then ((mn a d h g c i j.Head a2.jA).bind fun n => some (n.1, n.2.1, n.2.2)) else (if (j.Kind == 3) then ((sP a d h g c i (⟨a2.jA, j.jU⟩ : iR) j.Head).bind fun k => some (k.1, k.2.1, k.2.2)) else (if (j.Kind == 4) then ((if (wj kc ((ki jh a j.B).getD []) a2.jA false) then some (wj kc ((ki jh a j.C).getD []) a2.jA false) else some false).bind fun o => (if o then ((mn a d h g c i j.Head a2.jA).bind fun m => some (m.1, m.2.1, m.2.2)) else some (a, c, i))) else some (a, c, i))))
def nI (a : List iS) (d : List (iR × (List iS))) (c : List (ByteArray × (List iS))) (n : iS) : List ByteArray → (List (iR × (List (ByteArray × Bool)))) → (List iV) → Int → Option ((List (iR × (List (ByteArray × Bool)))) × (List iV) × Int)
 | [], g, h, j => some (g, h, j)
 | m :: k, g, h, j => ((qn g a d c h j n (⟨n.B, m⟩ : iV)).bind fun i => (nI a d c n k i.1 i.2.1 i.2.2))
def rr (h : List (iR × (List (ByteArray × Bool)))) (a : List iS) (g : List (iR × (List iS))) (c : List (ByteArray × (List iS))) (d : List iV) (i : Int) (j : iS) : Option ((List (iR × (List (ByteArray × Bool)))) × (List iV) × Int) :=
 (if (j.Kind == 1) then ((mn h a g c d i j.Head j.jA).bind fun m => some (m.1, m.2.1, m.2.2)) else ((pv h a g c d i j.B).bind fun k => nI a g c j k h d i))
def my (i : iV) (a : List iS) (d : List (iR × (List iS))) (c : List (ByteArray × (List iS))) : List iS → (List (iR × (List (ByteArray × Bool)))) → (List iV) → Int → Option ((List (iR × (List (ByteArray × Bool)))) × (List iV) × Int)
 | [], g, h, j => some (g, h, j)
 | n :: m, g, h, j => (if (wj kc ((ki jh g n.B).getD []) i.iR.ja false) then ((mn g a d c h j n.Head i.jA).bind fun k => (my i a d c m k.1 k.2.1 k.2.2)) else (my i a d c m g h j))
def ny (a : List iS) (d : List (iR × (List iS))) (c : List (ByteArray × (List iS))) (k : iV) : List iS → (List (iR × (List (ByteArray × Bool)))) → (List iV) → Int → Option ((List (iR × (List (ByteArray × Bool)))) × (List iV) × Int)
 | [], g, h, j => some (g, h, j)
 | n :: m, g, h, j => ((qn g a d c h j n k).bind fun i => (ny a d c k m i.1 i.2.1 i.2.2))
def lM (d : List iS) (c : List (iR × (List iS))) (a : List (ByteArray × (List iS))) : Nat → (List (iR × (List (ByteArray × Bool)))) → (List iV) → Int → Option ((List (iR × (List (ByteArray × Bool)))) × (List iV) × Int)
 | 0, _, _, _ => none
 | p + 1, i, g, j => (if (decide ((g.length : Int) > 0)) then ((kx g 0).bind fun h => ((lI (decide (0 ≤ 1) && decide (1 ≤ (g.length : Int)))).bind fun _ => ((ny d c a h ((ki jh c h.iR).getD []) i (g.drop (Int.toNat 1)) j).bind fun (k, m, q) => ((my h d c a ((ki kc a h.iR.jt).getD []) k m q).bind fun (n, o, s) => (lM d c a p n o s))))) else some (i, g, j))
def tL (h : List (iR × (List (ByteArray × Bool)))) (a : List iS) (g : List (iR × (List iS))) (c : List (ByteArray × (List iS))) (d : List iV) (i : Int) : Option ((List (iR × (List (ByteArray × Bool)))) × (List iV) × Int) :=
 lM a g c jM h d i
def mr (n : Int) : List iS → (List (iR × (List (ByteArray × Bool)))) → (List iS) → (List (iR × (List iS))) → (List (ByteArray × (List iS))) → (List iV) → Int → Option (Int × (List (iR × (List (ByteArray × Bool)))) × (List iS) × (List (iR × (List iS))) × (List (ByteArray × (List iS))) × (List iV) × Int)
 | [], d, a, g, h, i, j => ((tL d a g h i j).bind fun k => some ((wi0 .i64 (k.2.2 - n)), k.1, a, g, h, k.2.1, k.2.2))
 | m :: p, d, a, g, h, i, j => ((nn m).bind fun q => ((if q then ((wo a m).bind fun s => some (!s)) else some false).bind fun t => (if t then ((sb d a g h i j m).bind fun c => ((rr d c.1 c.2.1 c.2.2 i j m).bind fun o => (mr n p o.1 c.1 c.2.1 c.2.2 o.2.1 o.2.2))) else (mr n p d a g h i j))))
def sN (h : List (iR × (List (ByteArray × Bool)))) (a : List iS) (g : List (iR × (List iS))) (c : List (ByteArray × (List iS))) (d : List iV) (i : Int) (j : List iS) : Option (Int × (List (iR × (List (ByteArray × Bool)))) × (List iS) × (List (iR × (List iS))) × (List (ByteArray × (List iS))) × (List iV) × Int) :=
 mr i j h a g c d i
def uD (a0 : List iS) : Option ((List (iR × (List (ByteArray × Bool)))) × (List iS) × (List (iR × (List iS))) × (List (ByteArray × (List iS))) × (List iV) × Int) :=
 ((sN ([]) ([]) ([]) ([]) ([]) 0 a0).bind fun a => some (a.2.1, a.2.2.1, a.2.2.2.1, a.2.2.2.2.1, a.2.2.2.2.2.1, a.2.2.2.2.2.2))
def oS (a0 g : iV) : Option Int :=
 ((lP a0.iR g.iR).bind fun a => ((ov a0.jA g.jA).bind fun c => ((sx ([a, c])).bind fun d => some d)))
def vh (c : List (iR × (List (ByteArray × Bool)))) (d : List iS) (i : List (iR × (List iS))) (g : List (ByteArray × (List iS))) (h : List iV) (k : Int) : Option (List iV) :=
 ((Nw 48 (fun (a : iR) (b : ByteArray) => (⟨a, b⟩ : iV)) c).bind fun m => DW m (fun j => ((wg (fun (x : (iV × iV)) => oS x.1 x.2) j).bind fun n => some n)))
def qC (a : List (iR × (List (ByteArray × Bool)))) (c : List iS) (h : List (iR × (List iS))) (d : List (ByteArray × (List iS))) (g : List iV) (i : Int) (j : iR) (a2 : ByteArray) : Option Bool :=
 some (wj kc ((ki jh a j).getD []) a2 false)
def nK  : List iS → Int → Option Int
 | [], c => some c
 | a :: d, c => (nK d (wi0 .i64 (c + (wi0 .i64 ((wi0 .i64 ((wi0 .i64 ((wi0 .i64 ((wi0 .i64 ((wi0 .i64 ((wi0 .i64 ((wi0 .i64 (20 + (a.Head.ja.size : Int))) + (a.Head.jt.size : Int))) + (a.jA.size : Int))) + (a.B.ja.size : Int))) + (a.B.jt.size : Int))) + (a.C.ja.size : Int))) + (a.C.jt.size : Int))) + (a.jU.size : Int))))))
def ta (a0 : List iS) : Option Int :=
 nK a0 0
def uI  : List Signed → Int → Option Int
 | [], a => some a
 | c :: d, a => ((ta ([c.iS])).bind fun g => (uI d (wi0 .i64 (a + (wi0 .i64 (g + (c.Tag.length : Int)))))))
def xj (h : List Signed) : List Key → Int → Option Int
 | [], a => ((uI h a).bind fun c => some c)
 | d :: g, a => (xj h g (wi0 .i64 (a + (wi0 .i64 ((wi0 .i64 (10 + (d.jA.size : Int))) + (d.Key.length : Int))))))
def CX (a0 : List Key) (a : List Signed) : Option Int :=
 xj a a0 0
def pd (a0 : ByteArray) : Nat → Int → Option Bool
 | 0, _ => none
 | d + 1, c => (if (decide (c < (a0.size : Int))) then ((zn a0 c).bind fun a => ((if (decide ((a.toNat : Int) < 97)) then some true else some (decide ((a.toNat : Int) > 122))).bind fun g => ((if g then ((if (decide ((a.toNat : Int) < 48)) then some true else some (decide ((a.toNat : Int) > 57))).bind fun j => some j) else some false).bind fun h => ((if h then some ((a.toNat : Int) != 45) else some false).bind fun i => (if i then some false else (pd a0 d (wi0 .i64 (c + 1)))))))) else some true)
def qh (a0 : ByteArray) : Option Bool :=
 ((if (kc a0 zS) then some true else some (decide ((a0.size : Int) > 16))).bind fun x2 => ((if x2 then some true else ((zn a0 0).bind fun c => some (decide ((c.toNat : Int) < 97)))).bind fun d => ((if d then some true else ((zn a0 0).bind fun a => some (decide ((a.toNat : Int) > 122)))).bind fun g => (if g then some false else pd a0 jM 0))))
def rJ (a0 : iR) : Option Bool :=
 ((qh a0.ja).bind fun d => ((if d then ((qh a0.jt).bind fun a => some a) else some false).bind fun c => some c))
def vA (a0 a : iR) : Option Bool :=
 ((if (nX a0.ja a.ja) then some true else ((if (kc a0.ja a.ja) then some (nX a0.jt a.jt) else some false).bind fun d => some d)).bind fun c => some c)
def tf (a0 : iS) : Option Bool :=
 ((rJ a0.Head).bind fun u => (if (!u) then some false else (if (a0.Kind == 1) then ((qh a0.jA).bind fun i => ((if i then some (jh a0.B (⟨zS, zS⟩ : iR)) else some false).bind fun k => ((if k then some (jh a0.C (⟨zS, zS⟩ : iR)) else some false).bind fun m => ((if m then some (kc a0.jU zS) else some false).bind fun n => some n)))) else ((if (!(kc a0.jA zS)) then some true else ((rJ a0.B).bind fun d => some (!d))).bind fun o => (if o then some false else (if (a0.Kind == 2) then ((if (jh a0.C (⟨zS, zS⟩ : iR)) then some (kc a0.jU zS) else some false).bind fun p => some p) else (if (a0.Kind == 3) then ((if (jh a0.C (⟨zS, zS⟩ : iR)) then some (kc a0.B.ja a0.Head.ja) else some false).bind fun q => ((if q then ((qh a0.jU).bind fun j => some j) else some false).bind fun s => some s)) else ((if (a0.Kind == 4) then some (kc a0.jU zS) else some false).bind fun t => ((if t then ((rJ a0.C).bind fun c => some c) else some false).bind fun g => ((if g then ((vA a0.B a0.C).bind fun a => some a) else some false).bind fun h => some h))))))))))
def wH  : Nat → Int → ByteArray → Option ByteArray
 | 0, _, _ => none
 | n45 + 1, a, c => (if (decide (a ≥ 128)) then ((Ad c (yV ([(IntKind.u8.wrap (wi0 .i64 (128 + (Int.tmod a 128))))]))).bind fun d => (wH n45 (wi0 .i64 (Int.tdiv a 128)) d)) else ((Ad c (yV ([(IntKind.u8.wrap a)]))).bind fun g => some g))
def wv (a0 : Int) : Option ByteArray :=
 wH jM a0 zS
def ul (a0 : ByteArray) : Option ByteArray :=
 ((wv (a0.size : Int)).bind fun a => ((Ad a a0).bind fun c => some c))
def uR (a0 : iR) : Option ByteArray :=
 ((ul a0.ja).bind fun a => ((ul a0.jt).bind fun c => ((Ad a c).bind fun d => some d)))
def CL (a0 : iS) : Option ByteArray :=
 ((wv a0.Kind).bind fun g => ((uR a0.Head).bind fun h => ((Ad g h).bind fun a => (if (a0.Kind == 1) then ((ul a0.jA).bind fun i => ((Ad a i).bind fun n => some n)) else ((uR a0.B).bind fun j => ((Ad a j).bind fun c => (((if (a0.Kind == 3) then ((ul a0.jU).bind fun m => ((Ad c m).bind fun p => some p)) else some c) : Option ByteArray).bind fun d => (((if (a0.Kind == 4) then ((uR a0.C).bind fun k => ((Ad d k).bind fun o => some o)) else some d) : Option ByteArray).bind fun q => some q))))))))
def wW (a0 : iS) : Option ByteArray :=
 ((tf a0).bind fun a => (if (!a) then some zS else ((CL a0).bind fun c => some c)))
def tE (a0 d : iS) : Option Int :=
 ((wW a0).bind fun a => ((wW d).bind fun c => (if (nX a c) then some (-1) else (if (!(nX a c || kc a c)) then some 1 else some 0))))
def so (a : List iS) : List iS → Bool → iS → Option (Bool × iS)
 | [], d, g => some (d, g)
 | c :: h, d, g => ((tf c).bind fun i => ((if i then ((if ((a.length : Int) == 0) then some true else ((kx a (wi0 .i64 ((a.length : Int) - 1))).bind fun q => ((tE q c).bind fun k => some (decide (k < 0))))).bind fun p => some p) else some false).bind fun m => ((if m then ((if (!d) then some true else ((tE c g).bind fun j => some (decide (j < 0)))).bind fun o => some o) else some false).bind fun n => (if n then (so a h true c) else (so a h d g)))))
def wc (a0 : List iS) : Nat → (List iS) → Option (List iS)
 | 0, _ => none
 | d + 1, a => ((so a a0 false (⟨0, (⟨zS, zS⟩ : iR), zS, (⟨zS, zS⟩ : iR), (⟨zS, zS⟩ : iR), zS⟩ : iS)).bind fun (g, h) => (if (!g) then some a else ((kR 136 a ([h])).bind fun c => (wc a0 d c))))
def ES (a0 : List iS) : Option (List iS) :=
 wc a0 jM ([])
def vS (d : iS) : List iS → Option Bool
 | [] => some false
 | c :: a => (if (mz c d) then some true else (vS d a))
def yB (a0 : List iS) (a : iS) : Option Bool :=
 vS a a0
def su (a : List ByteArray) : List ByteArray → ByteArray → Option ByteArray
 | [], d => some d
 | c :: g, d => ((qh c).bind fun i => ((if i then ((if ((a.length : Int) == 0) then some true else ((kx a (wi0 .i64 ((a.length : Int) - 1))).bind fun h => some (!(nX c h || kc c h)))).bind fun n => some n) else some false).bind fun j => ((if j then ((if (kc d zS) then some true else some (nX c d)).bind fun m => some m) else some false).bind fun k => (if k then (su a g c) else (su a g d)))))
def wq (a0 : List ByteArray) : Nat → (List ByteArray) → Option (List ByteArray)
 | 0, _ => none
 | g + 1, a => ((su a a0 zS).bind fun c => (if (kc c zS) then some a else ((kR 16 a ([c])).bind fun d => (wq a0 g d))))
def Bl (a0 : List ByteArray) : Option (List ByteArray) :=
 wq a0 jM ([])
def sJ  : List iS → (List ByteArray) → Option (List ByteArray)
 | [], c => ((Bl c).bind fun g => some g)
 | a :: h, c => ((kR 16 c ([a.jA, a.Head.ja, a.B.ja, a.C.ja])).bind fun d => (sJ h d))
def y7 (a0 : List iS) : Option (List ByteArray) :=
 sJ a0 ([])
def uK (g : iR) (a2 : ByteArray) : List iV → Option Bool
 | [] => some false
 | c :: d => ((if (jh c.iR g) then some (kc c.jA a2) else some false).bind fun a => (if a then some true else (uK g a2 d)))
def qO (a0 : List iV) (a : iR) (a2 : ByteArray) : Option Bool :=
 uK a a2 a0
def tm (a0 : List iV) (i : iS) (a3 : ByteArray) : List ByteArray → Option Bool
 | [] => some false
 | a :: c => ((qO a0 i.B a).bind fun d => ((if d then ((qO a0 (⟨a, i.jU⟩ : iR) a3).bind fun g => some g) else some false).bind fun h => (if h then some true else (tm a0 i a3 c))))
def vC (a0 : List iV) (a : iS) (a2 : List ByteArray) (a3 : ByteArray) : Option Bool :=
 (if (a.Kind == 1) then some (kc a.jA a3) else (if (a.Kind == 2) then ((qO a0 a.B a3).bind fun g => some g) else (if (a.Kind == 4) then ((qO a0 a.B a3).bind fun h => ((if h then ((qO a0 a.C a3).bind fun c => some c) else some false).bind fun d => some d)) else tm a0 a a3 a2)))
def ue (a0 a : iV) : Option Bool :=
 ((vA a0.iR a.iR).bind fun g => ((if g then some true else ((if (jh a0.iR a.iR) then some (nX a0.jA a.jA) else some false).bind fun d => some d)).bind fun c => some c))
def ow (c a0 : List iV) : List iV → Nat → Int → Option Int
 | [], _, a => some a
 | h :: g, d, a => ((if ((c.length : Int) == 0) then some true else ((kx c (wi0 .i64 ((c.length : Int) - 1))).bind fun p => ((ue p h).bind fun j => some j))).bind fun k => ((if k then ((if (decide (a < 0)) then some true else ((kx a0 a).bind fun o => ((ue h o).bind fun i => some i))).bind fun n => some n) else some false).bind fun m => (if m then (ow c a0 g (d + 1) (d : Int)) else (ow c a0 g (d + 1) a))))
def ou (a0 : List iV) : List iV → (List iV) → Option (List iV)
 | [], a => some a
 | i :: d, a => ((ow a a0 a0 0 (-1)).bind fun c => (if (decide (c ≥ 0)) then ((kx a0 c).bind fun h => ((kR 48 a ([h])).bind fun g => (ou a0 d g))) else (ou a0 d a)))
def BX (a0 : List iV) : Option (List iV) :=
 ou a0 a0 ([])
def uT (c : iS) (n : List ByteArray) : List ByteArray → (List iV) → Bool → Option ((List iV) × Bool)
 | [], a, g => some (a, g)
 | d :: h, a, g => ((qO a c.Head d).bind fun j => ((if (!j) then ((vC a c n d).bind fun k => some k) else some false).bind fun m => (if m then ((kR 48 a ([(⟨c.Head, d⟩ : iV)])).bind fun i => (uT c n h i true)) else (uT c n h a g))))
def xa (j : List ByteArray) : List iS → (List iV) → Bool → Option ((List iV) × Bool)
 | [], a, c => some (a, c)
 | h :: d, a, c => ((uT h j j a c).bind fun (g, i) => (xa j d g i))
def wZ (i : List ByteArray) (j : List iS) : Nat → (List iV) → Option (List iV)
 | 0, _ => none
 | c + 1, h => ((xa i j h false).bind fun (a, g) => (if (!g) then ((BX a).bind fun d => some d) else (wZ i j c a)))
def zu (a0 : List iS) : Option (List iV) :=
 ((ES a0).bind fun c => ((y7 c).bind fun a => wZ a c jM ([])))
def mi (c : Int) : Nat → (List ByteArray) → Int → Int → Option ((List ByteArray) × Int)
 | 0, _, _, _ => none
 | i + 1, a, d, g => (if (decide (g < ((a.length - (Int.toNat c) : Nat) : Int))) then ((((kx (a.drop (Int.toNat c)) g).bind fun k => ((kx (a.drop (Int.toNat c)) (wi0 .i64 (g - 1))).bind fun m => (if (!(kc k m)) then ((kx (a.drop (Int.toNat c)) g).bind fun n => ((kx a d).bind fun o => some ((a.set (Int.toNat d) n), (wi0 .i64 (d + 1))))) else some (a, d)))) : Option ((List ByteArray) × Int)).bind fun (h, j) => (mi c i h j (wi0 .i64 (g + 1)))) else some (a, d))
def mh (a0 : List ByteArray) : Nat → Int → Option (List ByteArray)
 | 0, _ => none
 | g + 1, a => (if (decide (a < (a0.length : Int))) then ((kx a0 a).bind fun h => ((kx a0 (wi0 .i64 (a - 1))).bind fun i => (if (kc h i) then ((lI (decide (0 ≤ a) && decide (a ≤ (a0.length : Int)))).bind fun _ => ((mi a jM a0 a 1).bind fun (d, c) => ((lI (decide (0 ≤ c) && decide (c ≤ (d.length : Int)))).bind fun _ => ((lI (decide (0 ≤ c) && decide (c ≤ ((ml d (Int.toNat c) zS).length : Int)))).bind fun _ => some ((ml d (Int.toNat c) zS).take (Int.toNat c)))))) else (mh a0 g (wi0 .i64 (a + 1)))))) else some a0)
def om (a0 : List ByteArray) : Option (List ByteArray) :=
 (if (decide ((a0.length : Int) < 2)) then some a0 else mh a0 jM 1)
def rH  : List ByteArray → (List ByteArray) → Option (List ByteArray)
 | [], a => ((Ek a).bind fun h => ((om h).bind fun i => some i))
 | j :: c, a => ((nO j).bind fun g => (if g then ((kR 16 a ([j])).bind fun d => (rH c d)) else (rH c a)))
def wi (a0 : List ByteArray) : Option (List ByteArray) :=
 rH a0 ([])
def qG  : List iS → (List ByteArray) → Option (List ByteArray)
 | [], c => ((wi c).bind fun g => some g)
 | a :: h, c => ((kR 16 c ([a.jA, a.Head.ja, a.B.ja, a.C.ja])).bind fun d => (qG h d))
def w6 (a0 : List iS) : Option (List ByteArray) :=
 qG a0 ([])
def mE (f1 : ByteArray → Option Bool) : List ByteArray → Nat → Option Int
 | [], _ => some (-1)
 | d :: a, i35 => ((f1 d).bind fun c => (if c then some (i35 : Int) else (mE f1 a (i35 + 1))))
def rY (a0 : List ByteArray) (f1 : ByteArray → Option Bool) : Option Int :=
 mE f1 a0 0
def qv (a0 : List ByteArray) (f1 : ByteArray → Option Bool) : Option Bool :=
 ((rY a0 f1).bind fun a => some (decide (a ≥ 0)))
def rR (a0 : ByteArray) (a : (iR × ByteArray) → Option Bool) (c1 : iS) (c2 : ByteArray) : Option Bool :=
 ((a (c1.B, a0)).bind fun g => ((if g then ((a ((⟨a0, c1.jU⟩ : iR), c2)).bind fun c => some c) else some false).bind fun d => some d))
def vT (a0 : iS) (f1 : (iR × ByteArray) → Option Bool) (a2 : List ByteArray) (a3 : ByteArray) : Option Bool :=
 (if (a0.Kind == 1) then some (kc a0.jA a3) else (if (a0.Kind == 2) then ((f1 (a0.B, a3)).bind fun a => some a) else (if (a0.Kind == 4) then ((f1 (a0.B, a3)).bind fun c => ((if c then ((f1 (a0.C, a3)).bind fun d => some d) else some false).bind fun h => some h)) else ((qv a2 (fun (x : ByteArray) => rR x f1 a0 a3)).bind fun g => some g))))
def pk (a0 : iS) (f1 : (iR × ByteArray) → Option Bool) (g : List ByteArray) : List ByteArray → (List iV) → Option (List iV)
 | [], a => some a
 | d :: c, a => ((vT a0 f1 g d).bind fun i => (if i then ((kR 48 a ([(⟨a0.Head, d⟩ : iV)])).bind fun h => (pk a0 f1 g c h)) else (pk a0 f1 g c a)))
def sX (a0 : iS) (f1 : (iR × ByteArray) → Option Bool) (a2 : List ByteArray) : Option (List iV) :=
 ((nn a0).bind fun d => ((if (!d) then some true else some false).bind fun g => (if g then some [] else ((wi a2).bind fun a => (((if (a0.Kind == 1) then some ([a0.jA]) else some a) : Option (List ByteArray)).bind fun c => pk a0 f1 a c ([]))))))
def sA (a0 : iR) (a : ByteArray) (c : List (iV × Bool)) : Option Bool :=
 some (wj lf c (⟨a0, a⟩ : iV) false)
def nP (g : iS) (j : iV) : List iV → (List jk) → (List (iV × Bool)) → Option ((((List jk) × Bool) ⊕ ((List jk) × (List (iV × Bool)))) ⊕ ((List jk) × (List (iV × Bool))))
 | [], c, a => some (Sum.inr (c, a))
 | d :: h, c, a => (if (wj lf a d false) then (nP g j h c a) else ((kR 184 c ([(⟨g, d⟩ : jk)])).bind fun i => (if (lf d j) then some (Sum.inl (Sum.inl (i, true))) else (nP g j h i (lZ lf a d true)))))
def pe (m : List ByteArray) (n : iV) : List iS → (List jk) → (List (iV × Bool)) → Option (((List jk) × Bool) ⊕ ((List jk) × (List (iV × Bool))))
 | [], c, a => some (Sum.inr (c, a))
 | d :: g, c, a => ((sX d (fun (x : (iR × ByteArray)) => sA x.1 x.2 a) m).bind fun k => ((nP d n k c a).bind fun s => match s with | .inl j => some j | .inr (h, i) => (pe m n g h i)))
def pf (k : List ByteArray) (m : iV) (n : List iS) : Nat → (List jk) → Int → (List (iV × Bool)) → Option ((List jk) × Bool)
 | 0, _, _, _ => none
 | h + 1, a, j, c => (if (decide (j < (a.length : Int))) then ((pe k m n a c).bind fun s => match s with | .inl i => some i | .inr (d, g) => (pf k m n h d (a.length : Int) g)) else some ([], false))
def uP (a0 : List iS) (c : iV) : Option ((List jk) × Bool) :=
 ((xH a0).bind fun d => ((w6 a0).bind fun a => pf a c d jM ([]) (-1) ([])))
def qF  : List jk → (List iV) → Option (List iV)
 | [], a => some a
 | g :: d, a => ((kR 48 a ([g.iV])).bind fun c => (qF d c))
def te (a0 : List jk) : Option (List iV) :=
 qF a0 ([])
def oV (d : iV) : List iV → Nat → Option Int
 | [], _ => some (-1)
 | c :: a, i46 => (if (lf d c) then some (i46 : Int) else (oV d a (i46 + 1)))
def vg (a0 : List iV) (a : iV) : Option Int :=
 oV a a0 0
def oJ (a0 : List iV) (a : iV) : Option Bool :=
 ((vg a0 a).bind fun c => some (decide (c ≥ 0)))
def nk (d : iV) : List iV → Nat → Option Int
 | [], _ => some (-1)
 | c :: a, i46 => (if (lf d c) then some (i46 : Int) else (nk d a (i46 + 1)))
def sU (a0 : List iV) (a : iV) : Option Int :=
 nk a a0 0
def oY (a0 : List iV) (a : iV) : Option Bool :=
 ((sU a0 a).bind fun c => some (decide (c ≥ 0)))
def qy (a0 : List iV) (a : iR) (a2 : ByteArray) : Option Bool :=
 ((oY a0 (⟨a, a2⟩ : iV)).bind fun c => some c)
def mj (f1 : iV → Option Bool) : List iV → Nat → Option Int
 | [], _ => some (-1)
 | d :: a, i35 => ((f1 d).bind fun c => (if c then some (i35 : Int) else (mj f1 a (i35 + 1))))
def qX (a0 : List iV) (f1 : iV → Option Bool) : Option Int :=
 mj f1 a0 0
def nv (a0 : List iV) (f1 : iV → Option Bool) : Option Bool :=
 ((qX a0 f1).bind fun a => some (decide (a ≥ 0)))
def rB (a0 : iV) (c : iR) (c1 : List iV) (c2 d : ByteArray) : Option Bool :=
 ((if (jh a0.iR c) then ((qy c1 (⟨a0.jA, c2⟩ : iR) d).bind fun a => some a) else some false).bind fun g => some g)
def vG (a0 : List iV) (c : iR) (a2 a3 : ByteArray) : Option Bool :=
 ((nv a0 (fun (x : iV) => rB x c a0 a2 a3)).bind fun a => some a)
def rC (a0 : jk) (a : List iV) : Option Bool :=
 ((nn a0.iS).bind fun c => ((if (!c) then some true else some (!(jh a0.iV.iR a0.iS.Head))).bind fun j => (if j then some false else (if (a0.iS.Kind == 1) then some (kc a0.iS.jA a0.iV.jA) else (if (a0.iS.Kind == 2) then ((qy a a0.iS.B a0.iV.jA).bind fun d => some d) else (if (a0.iS.Kind == 3) then ((vG a a0.iS.B a0.iS.jU a0.iV.jA).bind fun g => some g) else ((qy a a0.iS.B a0.iV.jA).bind fun h => ((if h then ((qy a a0.iS.C a0.iV.jA).bind fun i => some i) else some false).bind fun k => some k))))))))
def qc (d : List iV) : List jk → Nat → Option Bool
 | [], _ => some true
 | g :: a, i98 => ((lI (decide (0 ≤ (i98 : Int)) && decide ((i98 : Int) ≤ (d.length : Int)))).bind fun _ => ((rC g (d.take (Int.toNat (i98 : Int)))).bind fun c => (if (!c) then some false else (qc d a (i98 + 1)))))
def uj (a0 : List jk) : Option Bool :=
 ((te a0).bind fun a => qc a a0 0)
def oE (a0 : List jk) : Option (List jk) :=
 ((kR 184 ([]) a0).bind fun a => some a)
def pE (a0 : List jk) (a a2 : Int) : Option (List jk) :=
 ((lI (decide (0 ≤ a ∧ a ≤ a2 ∧ a2 ≤ (a0.length : Int) ∧ (a0.length : Int) ≤ (a0.length : Int)))).bind fun _ => (if (a == a2) then some a0 else ((lI (decide (0 ≤ a) && decide (a ≤ (a0.length : Int)))).bind fun _ => ((lI (decide (0 ≤ a2) && decide (a2 ≤ (a0.length : Int)))).bind fun _ => ((lI (decide ((Int.toNat a) ≤ (Int.toNat a2) ∧ (Int.toNat a2) ≤ a0.length))).bind fun c => ((lI (decide (0 ≤ ((a0.take (Int.toNat a) ++ a0.drop (Int.toNat a2)).length : Int) ∧ ((a0.take (Int.toNat a) ++ a0.drop (Int.toNat a2)).length : Int) ≤ (a0.length : Int) ∧ (a0.length : Int) = ((zi a0 (Int.toNat a) (Int.toNat a2)).length : Int) ∧ ((a0.take (Int.toNat a) ++ a0.drop (Int.toNat a2)).length : Int) = ((a0.take (Int.toNat a) ++ a0.drop (Int.toNat a2)).length : Int)))).bind fun _ => some ((ml (zi a0 (Int.toNat a) (Int.toNat a2)) (Int.toNat ((a0.take (Int.toNat a) ++ a0.drop (Int.toNat a2)).length : Int)) (⟨(⟨0, (⟨zS, zS⟩ : iR), zS, (⟨zS, zS⟩ : iR), (⟨zS, zS⟩ : iR), zS⟩ : iS), (⟨(⟨zS, zS⟩ : iR), zS⟩ : iV)⟩ : jk)).take (a0.take (Int.toNat a) ++ a0.drop (Int.toNat a2)).length)))))))
def qD (a0 : List jk) : Nat → Int → Option (Bool ⊕ Unit)
 | 0, _ => none
 | c + 1, a => (if (decide (a < (if 0 > (wi0 .i64 ((a0.length : Int) - 1)) then 0 else (wi0 .i64 ((a0.length : Int) - 1))))) then ((oE a0).bind fun d => ((pE d a (wi0 .i64 (a + 1))).bind fun g => ((uj g).bind fun h => (if h then some (Sum.inl false) else (qD a0 c (wi0 .i64 (a + 1))))))) else some (Sum.inr ()))
def qI (i : List iV) (a0 : List jk) : List iV → Nat → Option Bool
 | [], _ => ((uj a0).bind fun g => (if (!g) then some false else ((qD a0 jM 0).bind fun s => match s with | .inl c => some c | .inr _ => some true)))
 | h :: a, i100 => ((lI (decide (0 ≤ (i100 : Int)) && decide ((i100 : Int) ≤ (i.length : Int)))).bind fun _ => ((oJ (i.take (Int.toNat (i100 : Int))) h).bind fun d => (if d then some false else (qI i a0 a (i100 + 1)))))
def wS (a0 : List jk) : Option Bool :=
 ((te a0).bind fun a => qI a a0 a 0)
def qa  : List jk → (List iV) → Option Bool
 | [], a => some true
 | g :: h, a => ((rC g a).bind fun d => (if (!d) then some false else ((kR 48 a ([g.iV])).bind fun c => (qa h c))))
def vX (a0 : List jk) : Option Bool :=
 qa a0 ([])
def na  : Nat → (List jk) → Int → Option (List jk)
 | 0, _, _ => none
 | h + 1, c, a => (if (decide (a ≥ 0)) then ((((oE c).bind fun i => ((pE i a (wi0 .i64 (a + 1))).bind fun d => ((vX d).bind fun j => (if j then some d else some c)))) : Option (List jk)).bind fun g => (na h g (wi0 .i64 (a - 1)))) else some c)
def nY  : Nat → (List jk) → Option (List jk)
 | 0, _ => none
 | d + 1, a => ((wS a).bind fun g => (if (!g) then ((na jM a (wi0 .i64 ((a.length : Int) - 2))).bind fun c => (nY d c)) else some a))
def uc (a0 : List jk) : Option (List jk) :=
 nY jM a0
def uf (a0 : List iS) (d : iV) : Option ((List jk) × Bool) :=
 ((uP a0 d).bind fun c => (if (!c.2) then some ([], false) else ((uc c.1).bind fun a => some (a, true))))
def I9 (a0 : List iS) (c : ByteArray) : Option ((List (iR × (List (ByteArray × Bool)))) × (List iS) × (List (iR × (List iS))) × (List (ByteArray × (List iS))) × (List iV) × Int × ByteArray) :=
 ((uD a0).bind fun a => some (a.1, a.2.1, a.2.2.1, a.2.2.2.1, a.2.2.2.2.1, a.2.2.2.2.2, c))
def tT (f1 : nF → Option Bool) : List nF → Nat → Option Int
 | [], _ => some (-1)
 | d :: a, i47 => ((f1 d).bind fun c => (if c then some (i47 : Int) else (tT f1 a (i47 + 1))))
def zk (a0 : List nF) (f1 : nF → Option Bool) : Option Int :=
 tT f1 a0 0
def Ga (a0 : nF) (a : iS) : Option Bool :=
 some (mz a0.Signed.iS a)
def IG (a0 : mc) (d : iS) : Option (nF × Bool) :=
 ((zk a0.pa (fun (x : nF) => Ga x d)).bind fun a => (if (decide (a < 0)) then some ((⟨(⟨(⟨0, (⟨zS, zS⟩ : iR), zS, (⟨zS, zS⟩ : iR), (⟨zS, zS⟩ : iR), zS⟩ : iS), []⟩ : Signed), (⟨0, 0, (⟨zS, zS⟩ : iR), []⟩ : Formula)⟩ : nF), false) else ((kx a0.pa a).bind fun c => some (c, true))))
def DM (a0 : List ux) : Option (List ux) :=
 ((kR 128 ([]) a0).bind fun a => some a)
def vm (f1 : ux → Option Bool) : List ux → Nat → Option Int
 | [], _ => some (-1)
 | d :: a, i47 => ((f1 d).bind fun c => (if c then some (i47 : Int) else (vm f1 a (i47 + 1))))
def BA (a0 : List ux) (f1 : ux → Option Bool) : Option Int :=
 vm f1 a0 0
def uO (f1 : ux → Option Bool) : Nat → (List ux) → Int → Int → Option (List ux)
 | 0, _, _, _ => none
 | i + 1, c, a, d => (if (decide (d < (c.length : Int))) then ((((kx c d).bind fun g => ((f1 g).bind fun j => (if (!j) then ((kx c a).bind fun m => some ((c.set (Int.toNat a) g), (wi0 .i64 (a + 1)))) else some (c, a)))) : Option ((List ux) × Int)).bind fun (h, k) => (uO f1 i h k (wi0 .i64 (d + 1)))) else ((lI (decide (0 ≤ a) && decide (a ≤ (c.length : Int)))).bind fun _ => ((lI (decide (0 ≤ a) && decide (a ≤ ((ml c (Int.toNat a) (⟨(⟨zS, zS⟩ : iR), (⟨0, 0, (⟨zS, zS⟩ : iR), []⟩ : Formula), []⟩ : ux)).length : Int)))).bind fun _ => some ((ml c (Int.toNat a) (⟨(⟨zS, zS⟩ : iR), (⟨0, 0, (⟨zS, zS⟩ : iR), []⟩ : Formula), []⟩ : ux)).take (Int.toNat a)))))
def AD (a0 : List ux) (f1 : ux → Option Bool) : Option (List ux) :=
 ((BA a0 f1).bind fun a => (if (a == (-1)) then some a0 else uO f1 jM a0 a (wi0 .i64 (a + 1))))
def Fq (a0 : ux) (a : iS) : Option Bool :=
 ((wo a0.Ee a).bind fun c => some (!c))
def HU (a0 : mc) (c : iS) : Option (List ux) :=
 ((DM a0.Aa).bind fun d => ((AD d (fun (x : ux) => Fq x c)).bind fun a => some a))
def nT (h : Int) (rec : Formula → Int → Option (Int × Int)) : List Formula → Int → Int → Option (Int × Int)
 | [], a, d => some (a, d)
 | i :: g, a, d => (if (decide (a > h)) then some (a, d) else ((rec i (wi0 .i64 (h - a))).bind fun c => (nT h rec g (wi0 .i64 (a + c.1)) (if c.2 > d then c.2 else d))))
def uB (rec : Formula → Int → Option (Int × Int)) (a0 : Formula) (d : Int) : Option (Int × Int) :=
 ((nT d rec a0.Kids 1 0).bind fun (a, c) => some (a, (wi0 .i64 (c + 1))))
def mQ : Nat → Formula → Int → Option (Int × Int)
 | 0 => fun _ _ => none
 | n + 1 => uB (mQ n)
def vY (a0 : Formula) : Option (Int × Int) :=
 ((mQ jM a0 4096).bind fun a => (if (decide (a.1 > 4096)) then some (0, 0) else some (a.1, a.2)))
def vU (a0 : Formula) : Option Bool :=
 (if (a0.Op == 1) then ((nl a0.iR).bind fun g => ((if g then some ((a0.Kids.length : Int) == 0) else some false).bind fun h => ((if h then some (a0.K == 0) else some false).bind fun i => some i))) else ((if (a0.Op == 2) then some (a0.Op == 2) else some (a0.Op == 3)).bind fun j => (if j then ((if (jh a0.iR (⟨zS, zS⟩ : iR)) then some (a0.K == 0) else some false).bind fun k => some k) else ((if (a0.Op == 4) then some (jh a0.iR (⟨zS, zS⟩ : iR)) else some false).bind fun m => ((if m then some (decide (a0.K ≥ 0)) else some false).bind fun a => ((if a then some (decide (a0.K ≤ (a0.Kids.length : Int))) else some false).bind fun c => ((if c then some (decide ((a0.Kids.length : Int) ≥ 1)) else some false).bind fun d => some d)))))))
def lK (f1 : Formula → Option Bool) : List Formula → Nat → Option Int
 | [], _ => some (-1)
 | d :: a, i41 => ((f1 d).bind fun c => (if c then some (i41 : Int) else (lK f1 a (i41 + 1))))
def rI (a0 : List Formula) (f1 : Formula → Option Bool) : Option Int :=
 lK f1 a0 0
def mA (a0 : List Formula) (f1 : Formula → Option Bool) : Option Bool :=
 ((rI a0 f1).bind fun a => some (decide (a ≥ 0)))
def tl (rec : Formula → Option Bool) (a0 : Formula) : Option Bool :=
 ((rec a0).bind fun a => some (!a))
def uG (rec : Formula → Option Bool) (a0 : Formula) : Option Bool :=
 ((vU a0).bind fun d => ((if d then some (decide ((a0.Kids.length : Int) ≤ 8)) else some false).bind fun g => ((if g then ((mA a0.Kids (fun (x : Formula) => tl rec x)).bind fun a => some (!a)) else some false).bind fun c => some c)))
def pQ : Nat → Formula → Option Bool
 | 0 => fun _ => none
 | n + 1 => uG (pQ n)
def oD (a0 : Formula) : Option Bool :=
 ((vY a0).bind fun c => ((if (decide (c.1 ≥ 1)) then some (decide (c.1 ≤ 64)) else some false).bind fun h => ((if h then some (decide (c.2 ≤ 6)) else some false).bind fun d => ((if d then ((pQ jM a0).bind fun a => some a) else some false).bind fun g => some g))))
def yl (a0 : Formula) (a : Int) : Option Bool :=
 ((if (a0.Op == a) then some ((a0.Kids.length : Int) == 0) else some false).bind fun x6 => some x6)
def F4  : Option Formula :=
 some (⟨2, 0, (⟨zS, zS⟩ : iR), []⟩ : Formula)
def GN  : Option Formula :=
 some (⟨3, 0, (⟨zS, zS⟩ : iR), []⟩ : Formula)
def xl (a0 : Int) : List Formula → (List Formula) → Option (List Formula)
 | [], a => some a
 | c :: d, a => (if (c.Op == a0) then ((kR 72 a c.Kids).bind fun g => (xl a0 d g)) else ((kR 72 a ([c])).bind fun h => (xl a0 d h)))
def H4 (a0 : Int) (a : List Formula) : Option (List Formula) :=
 xl a0 a ([])
def zw (a0 : Formula) (a : Int) : Option Bool :=
 ((yl a0 a).bind fun c => some c)
def Bw (a0 : List Formula) : Option (List Formula) :=
 ((kR 72 ([]) a0).bind fun a => some a)
def pN (p : Int) (f3 : (Formula × Formula) → Option Int) : Nat → (List Formula) → Int → Option (List Formula)
 | 0, _, _ => none
 | h + 1, c, a => ((if (decide (a > p)) then ((kx c a).bind fun k => ((kx c (wi0 .i64 (a - 1))).bind fun m => ((f3 (k, m)).bind fun i => some (decide (i < 0))))) else some false).bind fun j => (if j then ((kx c (wi0 .i64 (a - 1))).bind fun g => ((kx c a).bind fun d => ((kx c a).bind fun n => ((kx (c.set (Int.toNat a) g) (wi0 .i64 (a - 1))).bind fun o => (pN p f3 h ((c.set (Int.toNat a) g).set (Int.toNat (wi0 .i64 (a - 1))) (⟨d.Op, d.K, d.iR, d.Kids⟩ : Formula)) (wi0 .i64 (a - 1))))))) else some c))
def pD (a2 h : Int) (f3 : (Formula × Formula) → Option Int) : Nat → (List Formula) → Int → Option (List Formula)
 | 0, _, _ => none
 | g + 1, c, a => (if (decide (a < a2)) then ((pN h f3 jM c a).bind fun d => (pD a2 h f3 g d (wi0 .i64 (a + 1)))) else some c)
def qL (a0 : List Formula) (a a2 : Int) (f3 : (Formula × Formula) → Option Int) : Option (List Formula) :=
 pD a2 a f3 jM a0 (wi0 .i64 (a + 1))
def re (a3 a2 h : Int) : Nat → (List Formula) → Int → Option (List Formula)
 | 0, _, _ => none
 | i + 1, c, a => (if (decide (a < a3)) then ((kx c (wi0 .i64 (a2 + a))).bind fun g => ((kx c (wi0 .i64 (h + a))).bind fun d => ((kx c (wi0 .i64 (h + a))).bind fun j => ((kx (c.set (Int.toNat (wi0 .i64 (h + a))) g) (wi0 .i64 (a2 + a))).bind fun k => (re a3 a2 h i ((c.set (Int.toNat (wi0 .i64 (h + a))) g).set (Int.toNat (wi0 .i64 (a2 + a))) (⟨d.Op, d.K, d.iR, d.Kids⟩ : Formula)) (wi0 .i64 (a + 1))))))) else some c)
def oN (a0 : List Formula) (a a2 a3 : Int) (f4 : (Formula × Formula) → Option Int) : Option (List Formula) :=
 re a3 a2 a jM a0 0
def oU (a2 : Int) (f4 : (Formula × Formula) → Option Int) : Nat → (List Formula) → Int → Int → Option (List Formula)
 | 0, _, _, _ => none
 | n185 + 1, d, a, c => (if (a != c) then (if (decide (a > c)) then ((oN d (wi0 .i64 (a2 - a)) a2 c f4).bind fun g => (oU a2 f4 n185 g (wi0 .i64 (a - c)) c)) else ((oN d (wi0 .i64 (a2 - a)) (wi0 .i64 ((wi0 .i64 (a2 + c)) - a)) a f4).bind fun h => (oU a2 f4 n185 h a (wi0 .i64 (c - a))))) else ((oN d (wi0 .i64 (a2 - a)) a2 a f4).bind fun i => some i))
def xu (a0 : List Formula) (a a2 a3 : Int) (f4 : (Formula × Formula) → Option Int) : Option (List Formula) :=
 oU a2 f4 jM a0 (wi0 .i64 (a2 - a)) (wi0 .i64 (a3 - a2))
def rG (h : Int) : Nat → (List Formula) → Int → Option (List Formula)
 | 0, _, _ => none
 | i + 1, c, a => (if (decide (a < (wi0 .i64 (h - 1)))) then ((kx c (wi0 .i64 (a + 1))).bind fun g => ((kx c a).bind fun d => ((kx c a).bind fun j => ((kx (c.set (Int.toNat a) g) (wi0 .i64 (a + 1))).bind fun k => (rG h i ((c.set (Int.toNat a) g).set (Int.toNat (wi0 .i64 (a + 1))) (⟨d.Op, d.K, d.iR, d.Kids⟩ : Formula)) (wi0 .i64 (a + 1))))))) else some c)
def nZ (a0 : List Formula) (j : Int) (f4 : (Formula × Formula) → Option Int) : Nat → Int → Int → Option (List Formula)
 | 0, _, _ => none
 | n325 + 1, a, c => (if (decide (a < c)) then ((kx a0 (wi0 .i64 (Int.fdiv (IntKind.u64.wrap (wi0 .i64 (a + c))) (2 ^ min (Int.toNat 1) (IntKind.bits .u64))))).bind fun h => ((kx a0 j).bind fun i => ((f4 (h, i)).bind fun g => (if (decide (g < 0)) then (nZ a0 j f4 n325 (wi0 .i64 ((wi0 .i64 (Int.fdiv (IntKind.u64.wrap (wi0 .i64 (a + c))) (2 ^ min (Int.toNat 1) (IntKind.bits .u64)))) + 1)) c) else (nZ a0 j f4 n325 a (wi0 .i64 (Int.fdiv (IntKind.u64.wrap (wi0 .i64 (a + c))) (2 ^ min (Int.toNat 1) (IntKind.bits .u64))))))))) else ((rG a jM a0 j).bind fun d => some d))
def rE (g : Int) : Nat → (List Formula) → Int → Option (List Formula)
 | 0, _, _ => none
 | i + 1, c, a => (if (decide (a > g)) then ((kx c (wi0 .i64 (a - 1))).bind fun h => ((kx c a).bind fun d => ((kx c a).bind fun j => ((kx (c.set (Int.toNat a) h) (wi0 .i64 (a - 1))).bind fun k => (rE g i ((c.set (Int.toNat a) h).set (Int.toNat (wi0 .i64 (a - 1))) (⟨d.Op, d.K, d.iR, d.Kids⟩ : Formula)) (wi0 .i64 (a - 1))))))) else some c)
def oe (a0 : List Formula) (a2 : Int) (f4 : (Formula × Formula) → Option Int) : Nat → Int → Int → Option (List Formula)
 | 0, _, _ => none
 | d + 1, a, c => (if (decide (a < c)) then ((kx a0 a2).bind fun i => ((kx a0 (wi0 .i64 (Int.fdiv (IntKind.u64.wrap (wi0 .i64 (a + c))) (2 ^ min (Int.toNat 1) (IntKind.bits .u64))))).bind fun j => ((f4 (i, j)).bind fun h => (if (!(decide (h < 0))) then (oe a0 a2 f4 d (wi0 .i64 ((wi0 .i64 (Int.fdiv (IntKind.u64.wrap (wi0 .i64 (a + c))) (2 ^ min (Int.toNat 1) (IntKind.bits .u64)))) + 1)) c) else (oe a0 a2 f4 d a (wi0 .i64 (Int.fdiv (IntKind.u64.wrap (wi0 .i64 (a + c))) (2 ^ min (Int.toNat 1) (IntKind.bits .u64))))))))) else ((rE a jM a0 a2).bind fun g => some g))
def oa (a0 : List Formula) (d a3 a2 : Int) (f4 : (Formula × Formula) → Option Int) (rec : (List Formula) → Int → Int → Int → ((Formula × Formula) → Option Int) → Option (List Formula)) : Nat → Int → Int → Option (List Formula)
 | 0, _, _ => none
 | i + 1, a, c => (if (decide (a < c)) then ((kx a0 (wi0 .i64 ((wi0 .i64 ((wi0 .i64 ((wi0 .i64 (Int.fdiv (IntKind.u64.wrap (wi0 .i64 (d + a3))) (2 ^ min (Int.toNat 1) (IntKind.bits .u64)))) + a2)) - 1)) - (wi0 .i64 (Int.fdiv (IntKind.u64.wrap (wi0 .i64 (a + c))) (2 ^ min (Int.toNat 1) (IntKind.bits .u64))))))).bind fun o => ((kx a0 (wi0 .i64 (Int.fdiv (IntKind.u64.wrap (wi0 .i64 (a + c))) (2 ^ min (Int.toNat 1) (IntKind.bits .u64))))).bind fun p => ((f4 (o, p)).bind fun j => (if (!(decide (j < 0))) then (oa a0 d a3 a2 f4 rec i (wi0 .i64 ((wi0 .i64 (Int.fdiv (IntKind.u64.wrap (wi0 .i64 (a + c))) (2 ^ min (Int.toNat 1) (IntKind.bits .u64)))) + 1)) c) else (oa a0 d a3 a2 f4 rec i a (wi0 .i64 (Int.fdiv (IntKind.u64.wrap (wi0 .i64 (a + c))) (2 ^ min (Int.toNat 1) (IntKind.bits .u64))))))))) else ((((if (decide (a < a2)) then some (decide (a2 < (wi0 .i64 ((wi0 .i64 ((wi0 .i64 (Int.fdiv (IntKind.u64.wrap (wi0 .i64 (d + a3))) (2 ^ min (Int.toNat 1) (IntKind.bits .u64)))) + a2)) - a)))) else some false).bind fun t => (if t then ((xu a0 a a2 (wi0 .i64 ((wi0 .i64 ((wi0 .i64 (Int.fdiv (IntKind.u64.wrap (wi0 .i64 (d + a3))) (2 ^ min (Int.toNat 1) (IntKind.bits .u64)))) + a2)) - a)) f4).bind fun n => some n) else some a0)) : Option (List Formula)).bind fun g => ((((if (decide (d < a)) then some (decide (a < (wi0 .i64 (Int.fdiv (IntKind.u64.wrap (wi0 .i64 (d + a3))) (2 ^ min (Int.toNat 1) (IntKind.bits .u64)))))) else some false).bind fun s => (if s then ((rec g d a (wi0 .i64 (Int.fdiv (IntKind.u64.wrap (wi0 .i64 (d + a3))) (2 ^ min (Int.toNat 1) (IntKind.bits .u64)))) f4).bind fun m => some m) else some g)) : Option (List Formula)).bind fun h => ((if (decide ((wi0 .i64 (Int.fdiv (IntKind.u64.wrap (wi0 .i64 (d + a3))) (2 ^ min (Int.toNat 1) (IntKind.bits .u64)))) < (wi0 .i64 ((wi0 .i64 ((wi0 .i64 (Int.fdiv (IntKind.u64.wrap (wi0 .i64 (d + a3))) (2 ^ min (Int.toNat 1) (IntKind.bits .u64)))) + a2)) - a)))) then some (decide ((wi0 .i64 ((wi0 .i64 ((wi0 .i64 (Int.fdiv (IntKind.u64.wrap (wi0 .i64 (d + a3))) (2 ^ min (Int.toNat 1) (IntKind.bits .u64)))) + a2)) - a)) < a3)) else some false).bind fun q => (if q then ((rec h (wi0 .i64 (Int.fdiv (IntKind.u64.wrap (wi0 .i64 (d + a3))) (2 ^ min (Int.toNat 1) (IntKind.bits .u64)))) (wi0 .i64 ((wi0 .i64 ((wi0 .i64 (Int.fdiv (IntKind.u64.wrap (wi0 .i64 (d + a3))) (2 ^ min (Int.toNat 1) (IntKind.bits .u64)))) + a2)) - a)) a3 f4).bind fun k => some k) else some h)))))
def vt (rec : (List Formula) → Int → Int → Int → ((Formula × Formula) → Option Int) → Option (List Formula)) (a0 : List Formula) (a a2 a3 : Int) (f4 : (Formula × Formula) → Option Int) : Option (List Formula) :=
 (if ((wi0 .i64 (a2 - a)) == 1) then nZ a0 a f4 jM a2 a3 else (if ((wi0 .i64 (a3 - a2)) == 1) then oe a0 a2 f4 jM a a2 else (((if (decide (a2 > (wi0 .i64 (Int.fdiv (IntKind.u64.wrap (wi0 .i64 (a + a3))) (2 ^ min (Int.toNat 1) (IntKind.bits .u64)))))) then some ((wi0 .i64 ((wi0 .i64 ((wi0 .i64 (Int.fdiv (IntKind.u64.wrap (wi0 .i64 (a + a3))) (2 ^ min (Int.toNat 1) (IntKind.bits .u64)))) + a2)) - a3)), (wi0 .i64 (Int.fdiv (IntKind.u64.wrap (wi0 .i64 (a + a3))) (2 ^ min (Int.toNat 1) (IntKind.bits .u64))))) else some (a, a2)) : Option (Int × Int)).bind fun (c, d) => oa a0 a a3 a2 f4 rec jM c d)))
def pj : Nat → (List Formula) → Int → Int → Int → ((Formula × Formula) → Option Int) → Option (List Formula)
 | 0 => fun _ _ _ _ _ => none
 | n + 1 => vt (pj n)
def sh (j c : Int) (f2 : (Formula × Formula) → Option Int) : Nat → (List Formula) → Int → Int → Option ((List Formula) × Int)
 | 0, _, _, _ => none
 | h + 1, g, d, a => (if (decide (a ≤ j)) then ((pj jM g d (wi0 .i64 (d + c)) a f2).bind fun i => (sh j c f2 h i a (wi0 .i64 (a + (wi0 .i64 (2 * c)))))) else some (g, d))
def sf (k : Int) (f2 : (Formula × Formula) → Option Int) : Nat → (List Formula) → Int → Option (List Formula)
 | 0, _, _ => none
 | i + 1, d, a => (if (decide (a < k)) then ((sh k a f2 jM d 0 (wi0 .i64 (2 * a))).bind fun (g, c) => (((if (decide ((wi0 .i64 (c + a)) < k)) then ((pj jM g c (wi0 .i64 (c + a)) k f2).bind fun j => some j) else some g) : Option (List Formula)).bind fun h => (sf k f2 i h (wi0 .i64 (a * 2))))) else some d)
def sk (j : Int) (f2 : (Formula × Formula) → Option Int) : Nat → (List Formula) → Int → Int → Option (List Formula)
 | 0, _, _, _ => none
 | n123 + 1, d, i, a => (if (decide (a ≤ j)) then ((qL d i a f2).bind fun g => (sk j f2 n123 g a (wi0 .i64 (a + 20)))) else ((qL d i j f2).bind fun h => ((sf j f2 jM h 20).bind fun c => some c)))
def xM (a0 : List Formula) (a : Int) (f2 : (Formula × Formula) → Option Int) : Option (List Formula) :=
 sk a f2 jM a0 0 20
def xq (a0 : List Formula) (f1 : (Formula × Formula) → Option Int) : Option (List Formula) :=
 ((xM a0 (a0.length : Int) f1).bind fun a => some a)
def yF (rec : (List Int) → Formula → Option (List Int)) : List Formula → (List Int) → Option (List Int)
 | [], a => some a
 | g :: c, a => ((rec a g).bind fun d => (yF rec c d))
def Cv (rec : (List Int) → Formula → Option (List Int)) (c : List Int) (a : Formula) : Option (List Int) :=
 ((kI c a.Op).bind fun i => (if (a.Op == 1) then ((mK i.2 a.iR).bind fun h => some h.2) else (((if (a.Op == 4) then ((kI i.2 a.K).bind fun d => some d.2) else some i.2) : Option (List Int)).bind fun g => ((kI g (a.Kids.length : Int)).bind fun j => yF rec a.Kids j.2))))
def AS : Nat → (List Int) → Formula → Option (List Int)
 | 0 => fun _ _ => none
 | n + 1 => Cv (AS n)
def Gf (a : List Int) (c : Formula) : Option (Bool × (List Int)) :=
 ((oD c).bind fun d => (if (!d) then some (false, a) else ((AS jM a c).bind fun g => some (true, g))))
def zq (a0 : Formula) : Option (List Int) :=
 ((Gf ([]) a0).bind fun c => ((nQ c.2).bind fun a => some a))
def Ez (a0 g : Formula) : Option Int :=
 ((zq a0).bind fun a => ((zq g).bind fun c => ((xW a c).bind fun d => some d)))
def BW (a0 : List Formula) : Option (List Formula) :=
 ((Bw a0).bind fun c => ((xq c (fun (x : (Formula × Formula)) => Ez x.1 x.2)).bind fun a => some a))
def sR (c : Int) (f1 : (Formula × Formula) → Option Bool) : Nat → (List Formula) → Int → Int → Option ((List Formula) × Int)
 | 0, _, _, _ => none
 | i + 1, a, d, g => (if (decide (g < ((a.length - (Int.toNat c) : Nat) : Int))) then ((((kx (a.drop (Int.toNat c)) g).bind fun m => ((kx (a.drop (Int.toNat c)) (wi0 .i64 (g - 1))).bind fun n => ((f1 (m, n)).bind fun j => (if (!j) then ((kx (a.drop (Int.toNat c)) g).bind fun o => ((kx a d).bind fun p => some ((a.set (Int.toNat d) o), (wi0 .i64 (d + 1))))) else some (a, d))))) : Option ((List Formula) × Int)).bind fun (h, k) => (sR c f1 i h k (wi0 .i64 (g + 1)))) else some (a, d))
def sQ (a0 : List Formula) (f1 : (Formula × Formula) → Option Bool) : Nat → Int → Option (List Formula)
 | 0, _ => none
 | g + 1, a => (if (decide (a < (a0.length : Int))) then ((kx a0 a).bind fun i => ((kx a0 (wi0 .i64 (a - 1))).bind fun j => ((f1 (i, j)).bind fun h => (if h then ((lI (decide (0 ≤ a) && decide (a ≤ (a0.length : Int)))).bind fun _ => ((sR a f1 jM a0 a 1).bind fun (d, c) => ((lI (decide (0 ≤ c) && decide (c ≤ (d.length : Int)))).bind fun _ => ((lI (decide (0 ≤ c) && decide (c ≤ ((ml d (Int.toNat c) (⟨0, 0, (⟨zS, zS⟩ : iR), []⟩ : Formula)).length : Int)))).bind fun _ => some ((ml d (Int.toNat c) (⟨0, 0, (⟨zS, zS⟩ : iR), []⟩ : Formula)).take (Int.toNat c)))))) else (sQ a0 f1 g (wi0 .i64 (a + 1))))))) else some a0)
def yn (a0 : List Formula) (f1 : (Formula × Formula) → Option Bool) : Option (List Formula) :=
 (if (decide ((a0.length : Int) < 2)) then some a0 else sQ a0 f1 jM 1)
def lR (h : List Formula) (f2 : (Formula × Formula) → Option Bool) : List Formula → Nat → Option Bool
 | [], _ => some true
 | g :: d, i95 => ((kx h (i95 : Int)).bind fun c => ((f2 (g, c)).bind fun a => (if (!a) then some false else (lR h f2 d (i95 + 1)))))
def pw (a0 a : List Formula) (f2 : (Formula × Formula) → Option Bool) : Option Bool :=
 (if ((a0.length : Int) != (a.length : Int)) then some false else lR a f2 a0 0)
def Dg (rec : Formula → Formula → Option Bool) (a0 a : Formula) : Option Bool :=
 ((if (a0.Op == a.Op) then some (a0.K == a.K) else some false).bind fun d => ((if d then some (jh a0.iR a.iR) else some false).bind fun g => ((if g then ((pw a0.Kids a.Kids (fun (x : (Formula × Formula)) => rec x.1 x.2)).bind fun c => some c) else some false).bind fun h => some h)))
def BQ : Nat → Formula → Formula → Option Bool
 | 0 => fun _ _ => none
 | n + 1 => Dg (BQ n)
def sD (a0 : la) (d : Int) (a2 : List Formula) : Option (Formula × la) :=
 ((H4 d a2).bind fun j => ((mA j (fun (x : Formula) => zw x (wi0 .i64 (5 - d)))).bind fun g => (if g then some ((⟨(wi0 .i64 (5 - d)), 0, (⟨zS, zS⟩ : iR), []⟩ : Formula), a0) else ((BW j).bind fun h => ((yn h (fun (x : (Formula × Formula)) => BQ jM x.1 x.2)).bind fun a => (((if (decide ((a.length : Int) > 64)) then some (⟨12⟩ : la) else some a0) : Option la).bind fun c => (if ((a.length : Int) == 1) then ((kx a 0).bind fun i => some (i, c)) else some ((⟨d, 0, (⟨zS, zS⟩ : iR), a⟩ : Formula), c))))))))
def ob (a0 : la) : List Formula → Int → (List Formula) → Option (Formula × la)
 | [], c, a => (if (decide (c ≤ 0)) then (F4.bind fun n => some (n, a0)) else (if (decide (c > (a.length : Int))) then (GN.bind fun o => some (o, a0)) else (if (c == (a.length : Int)) then ((sD a0 2 a).bind fun h => some (h.1, h.2)) else (if (c == 1) then ((sD a0 3 a).bind fun i => some (i.1, i.2)) else ((BW a).bind fun p => some ((⟨4, c, (⟨zS, zS⟩ : iR), p⟩ : Formula), a0))))))
 | g :: d, c, a => ((yl g 2).bind fun k => (if k then (ob a0 d (wi0 .i64 (c - 1)) a) else ((yl g 3).bind fun m => (if (!m) then ((kR 72 a ([g])).bind fun j => (ob a0 d c j)) else (ob a0 d c a)))))
def zy (a0 : la) (a : Int) (a2 : List Formula) : Option (Formula × la) :=
 ob a0 a2 a ([])
def uQ (rec : la → Formula → Option (Formula × la)) (m : Formula) : List Formula → (List Formula) → la → Option (Formula × la)
 | [], a, c => (if (m.Op == 4) then ((zy c m.K a).bind fun g => some (g.1, g.2)) else ((sD c m.Op a).bind fun h => some (h.1, h.2)))
 | k :: i, a, c => ((rec c k).bind fun d => ((kR 72 a ([d.1])).bind fun j => (uQ rec m i j d.2)))
def yu (rec : la → Formula → Option (Formula × la)) (a0 : la) (a : Formula) : Option (Formula × la) :=
 (if (a.Op == 1) then some (a, a0) else uQ rec a a.Kids ([]) a0)
def wz : Nat → la → Formula → Option (Formula × la)
 | 0 => fun _ _ => none
 | n + 1 => yu (wz n)
def ER (a0 : Formula) : Option (Formula × Int) :=
 ((oD a0).bind fun g => (if (!g) then some ((⟨0, 0, (⟨zS, zS⟩ : iR), []⟩ : Formula), 11) else ((wz jM (⟨0⟩ : la) a0).bind fun a => ((if (a.2.e != 0) then some true else ((oD a.1).bind fun c => some (!c))).bind fun d => (if d then some ((⟨0, 0, (⟨zS, zS⟩ : iR), []⟩ : Formula), 12) else some (a.1, 0))))))
def HR (a0 c : Formula) : Option (Formula × Int) :=
 ((ER (⟨2, 0, (⟨zS, zS⟩ : iR), [a0, c]⟩ : Formula)).bind fun a => some (a.1, a.2))
def BG  : List Formula → Int → Int → Int → iR → (List Formula) → Option (Int × Int × Int × iR × (List Formula))
 | [], d, g, h, i, c => some (d, g, h, i, c)
 | k :: j, d, g, h, i, c => (if (d != 0) then some (d, g, h, i, c) else ((HR (⟨g, h, i, c⟩ : Formula) k).bind fun a => (BG j a.2 ((a.1).Op) ((a.1).K) ((a.1).iR) ((a.1).Kids))))
def J4 (a0 : List Formula) : Option (Formula × Int) :=
 ((kx a0 0).bind fun x6 => ((ER x6).bind fun a => ((lI (decide (0 ≤ 1) && decide (1 ≤ (a0.length : Int)))).bind fun _ => ((BG (a0.drop (Int.toNat 1)) a.2 ((a.1).Op) ((a.1).K) ((a.1).iR) ((a.1).Kids)).bind fun (c, g, h, i, d) => (if (c != 0) then some ((⟨0, 0, (⟨zS, zS⟩ : iR), []⟩ : Formula), c) else some ((⟨g, h, i, d⟩ : Formula), 0))))))
def CP  : List ux → (List Formula) → Option (Formula × Int)
 | [], a => ((J4 a).bind fun c => some (c.1, c.2))
 | h :: d, a => ((kR 72 a ([h.lg])).bind fun g => (CP d g))
def Mo (a0 : mc) (d : iS) : Option (Formula × Int) :=
 ((IG a0 d).bind fun a => (if (!a.2) then some ((⟨0, 0, (⟨zS, zS⟩ : iR), []⟩ : Formula), 42) else ((HU a0 d).bind fun c => CP c ([(a.1).lg]))))
def nS (rec : Formula → (iR → Option Bool) → Option Bool) (f1 : iR → Option Bool) (a0 : Formula) : List Formula → Int → Option Bool
 | [], a => (if (a0.Op == 2) then some (a == (a0.Kids.length : Int)) else (if (a0.Op == 3) then some (decide (a > 0)) else some (decide (a ≥ a0.K))))
 | g :: c, a => ((rec g f1).bind fun d => (if d then (nS rec f1 a0 c (wi0 .i64 (a + 1))) else (nS rec f1 a0 c a)))
def uE (rec : Formula → (iR → Option Bool) → Option Bool) (a0 : Formula) (f1 : iR → Option Bool) : Option Bool :=
 (if (a0.Op == 1) then ((f1 a0.iR).bind fun a => some a) else nS rec f1 a0 a0.Kids 0)
def oC : Nat → Formula → (iR → Option Bool) → Option Bool
 | 0 => fun _ _ => none
 | n + 1 => uE (oC n)
def sr (a0 : Formula) (f1 : iR → Option Bool) : Option Bool :=
 ((oD a0).bind fun d => ((if d then ((oC jM a0 f1).bind fun a => some a) else some false).bind fun c => some c))
def Gi (a0 : iR) (h : List (iR × (List (ByteArray × Bool)))) (a : List iS) (g : List (iR × (List iS))) (c : List (ByteArray × (List iS))) (d : List iV) (i : Int) (c1 : ByteArray) : Option Bool :=
 ((qC h a g c d i a0 c1).bind fun j => some j)
def xL (a0 : mc) (d : ((List (iR × (List (ByteArray × Bool)))) × (List iS) × (List (iR × (List iS))) × (List (ByteArray × (List iS))) × (List iV) × Int × ByteArray)) : List nF → (List iS) → Option (List iS)
 | [], a => ((xH a).bind fun j => some j)
 | g :: c, a => ((Mo a0 g.Signed.iS).bind fun r417 => ((if (r417.2 == 0) then ((sr r417.1 (fun (x : iR) => Gi x d.1 d.2.1 d.2.2.1 d.2.2.2.1 d.2.2.2.2.1 d.2.2.2.2.2.1 d.2.2.2.2.2.2)).bind fun i => some i) else some false).bind fun k => (if k then ((kR 136 a ([g.Signed.iS])).bind fun h => (xL a0 d c h)) else (xL a0 d c a))))
def DC (a0 : mc) (a : List iS) (a2 : ByteArray) : Option (List iS) :=
 ((I9 a a2).bind fun c => xL a0 c a0.pa ([]))
def BM (a0 k : mc) : Nat → (List iS) → (List iS) → Int → Option ((List iS) × (List iS) × Int)
 | 0, _, _, _ => none
 | i + 1, a, c, h => ((DC a0 c k.Name).bind fun d => ((DC k a a0.Name).bind fun g => ((if ((d.length : Int) == (a.length : Int)) then some ((g.length : Int) == (c.length : Int)) else some false).bind fun j => (if j then some (a, c, h) else (BM a0 k i d g (wi0 .i64 (h + 1)))))))
def J2 (a0 a : mc) : Option ((List iS) × (List iS) × Int) :=
 BM a0 a jM ([]) ([]) 0
def sB (rec : (List Formula) → Option Int) : List Formula → Int → Option Int
 | [], c => some c
 | a :: g, c => ((rec a.Kids).bind fun d => (sB rec g (wi0 .i64 (c + (wi0 .i64 ((wi0 .i64 (1 + (wi0 .i64 (Int.tdiv (wi0 .i64 ((a.iR.ja.size : Int) + (a.iR.jt.size : Int))) 16)))) + d))))))
def vw (rec : (List Formula) → Option Int) (a0 : List Formula) : Option Int :=
 sB rec a0 0
def qi : Nat → (List Formula) → Option Int
 | 0 => fun _ => none
 | n + 1 => vw (qi n)
def qE (rec : Formula → Option Int) : List Formula → Int → Option Int
 | [], a => some a
 | g :: d, a => ((rec g).bind fun c => (qE rec d (wi0 .i64 (a + c))))
def vE (rec : Formula → Option Int) (a0 : Formula) : Option Int :=
 qE rec a0.Kids 1
def qf : Nat → Formula → Option Int
 | 0 => fun _ => none
 | n + 1 => vE (qf n)
def rl (rec : Formula → Option Int) : List Formula → Int → Option Int
 | [], a => some (wi0 .i64 (a + 1))
 | g :: d, a => ((rec g).bind fun c => (rl rec d (if c > a then c else a)))
def wG (rec : Formula → Option Int) (a0 : Formula) : Option Int :=
 rl rec a0.Kids 0
def qV : Nat → Formula → Option Int
 | 0 => fun _ => none
 | n + 1 => wG (qV n)
def rD (rec : Formula → Option Bool) : List Formula → Option Bool
 | [] => some true
 | d :: a => ((rec d).bind fun c => (if (!c) then some false else (rD rec a)))
def wB (rec : Formula → Option Bool) (a0 : Formula) : Option Bool :=
 (if (a0.Op == 1) then ((rJ a0.iR).bind fun o => ((if o then some ((a0.Kids.length : Int) == 0) else some false).bind fun h => ((if h then some (a0.K == 0) else some false).bind fun i => some i))) else ((if (decide (a0.Op < 1)) then some true else some (decide (a0.Op > 4))).bind fun j => ((if j then some true else some (!(jh a0.iR (⟨zS, zS⟩ : iR)))).bind fun k => ((if k then some true else some (decide ((a0.Kids.length : Int) > 8))).bind fun m => (if m then some false else ((if (decide (a0.Op < 4)) then some (a0.K != 0) else some false).bind fun n => ((if n then some true else ((if (a0.Op == 4) then ((if (decide ((a0.Kids.length : Int) < 1)) then some true else some (decide (a0.K < 0))).bind fun d => ((if d then some true else some (decide (a0.K > (a0.Kids.length : Int)))).bind fun g => some g)) else some false).bind fun c => some c)).bind fun a => (if a then some false else rD rec a0.Kids))))))))
def rh : Nat → Formula → Option Bool
 | 0 => fun _ => none
 | n + 1 => wB (rh n)
def wV (a0 : Formula) : Option Bool :=
 ((qf jM a0).bind fun h => ((if (decide (h ≤ 64)) then ((qV jM a0).bind fun c => some (decide (c ≤ 6))) else some false).bind fun d => ((if d then ((rh jM a0).bind fun a => some a) else some false).bind fun g => some g)))
def vR (d : iR) : List iR → Option Bool
 | [] => some false
 | c :: a => (if (jh c d) then some true else (vR d a))
def yx (a0 : List iR) (a : iR) : Option Bool :=
 vR a a0
def pR (rec : Formula → (List iR) → Option Bool) (g : List iR) (a0 : Formula) : List Formula → Int → Option Bool
 | [], a => (if (a0.Op == 2) then some (a == (a0.Kids.length : Int)) else (if (a0.Op == 3) then some (decide (a > 0)) else some (decide (a ≥ a0.K))))
 | h :: c, a => ((rec h g).bind fun d => (if d then (pR rec g a0 c (wi0 .i64 (a + 1))) else (pR rec g a0 c a)))
def wF (rec : Formula → (List iR) → Option Bool) (a0 : Formula) (a : List iR) : Option Bool :=
 (if (a0.Op == 1) then ((yx a a0.iR).bind fun c => some c) else pR rec a a0 a0.Kids 0)
def qW : Nat → Formula → (List iR) → Option Bool
 | 0 => fun _ _ => none
 | n + 1 => wF (qW n)
def HI (a0 d : mc) : Option ((List iS) × (List (iR × (List (ByteArray × Bool)))) × (List iS) × (List (iR × (List iS))) × (List (ByteArray × (List iS))) × (List iV) × Int × ByteArray) :=
 ((J2 a0 d).bind fun c => ((uD c.2.1).bind fun a => some (c.2.1, a.1, a.2.1, a.2.2.1, a.2.2.2.1, a.2.2.2.2.1, a.2.2.2.2.2, d.Name)))
def E7 (a0 : iR) (h : List (iR × (List (ByteArray × Bool)))) (a : List iS) (g : List (iR × (List iS))) (c : List (ByteArray × (List iS))) (d : List iV) (j : Int) (i : ByteArray) (k : List nF) (m : List ux) : Option Bool :=
 ((qC h a g c d j a0 i).bind fun n => some n)
def Gn (a0 c : mc) (a2 : Formula) : Option Bool :=
 ((HI a0 c).bind fun a => ((sr a2 (fun (x : iR) => E7 x a.2.1 a.2.2.1 a.2.2.2.1 a.2.2.2.2.1 a.2.2.2.2.2.1 a.2.2.2.2.2.2.1 a.2.2.2.2.2.2.2 c.pa c.Aa)).bind fun d => some d))
def A2 (a0 : zg) : Option ((List (iR × (List (ByteArray × Bool)))) × (List iS) × (List (iR × (List iS))) × (List (ByteArray × (List iS))) × (List iV) × Int × ByteArray × ByteArray × Int) :=
 ((uD a0.oz).bind fun a => some (a.1, a.2.1, a.2.2.1, a.2.2.2.1, a.2.2.2.2.1, a.2.2.2.2.2, a0.mc.Name, a0.rU, a0.Room))
def vI (a0 : iR) (i : List (iR × (List (ByteArray × Bool)))) (a : List iS) (g : List (iR × (List iS))) (c : List (ByteArray × (List iS))) (d : List iV) (o : Int) (k : ByteArray) (h : List nF) (j : List ux) (m : ByteArray) (t : Int) (n s : List iS) (p q : List iR) : Option Bool :=
 ((qC i a g c d o a0 m).bind fun u => some u)
def qm (a0 : List iR) : Option (List iR) :=
 ((kR 32 ([]) a0).bind fun a => some a)
def kQ (f1 : iR → Option Bool) : List iR → Nat → Option Int
 | [], _ => some (-1)
 | d :: a, i35 => ((f1 d).bind fun c => (if c then some (i35 : Int) else (kQ f1 a (i35 + 1))))
def mU (a0 : List iR) (f1 : iR → Option Bool) : Option Int :=
 kQ f1 a0 0
def lX (f1 : iR → Option Bool) : Nat → (List iR) → Int → Int → Option (List iR)
 | 0, _, _, _ => none
 | n321 + 1, c, a, d => (if (decide (d < (c.length : Int))) then ((((kx c d).bind fun g => ((f1 g).bind fun i => (if (!i) then ((kx c a).bind fun k => some ((c.set (Int.toNat a) g), (wi0 .i64 (a + 1)))) else some (c, a)))) : Option ((List iR) × Int)).bind fun (h, j) => (lX f1 n321 h j (wi0 .i64 (d + 1)))) else ((lI (decide (0 ≤ a) && decide (a ≤ (c.length : Int)))).bind fun _ => ((lI (decide (0 ≤ a) && decide (a ≤ ((ml c (Int.toNat a) (⟨zS, zS⟩ : iR)).length : Int)))).bind fun _ => some ((ml c (Int.toNat a) (⟨zS, zS⟩ : iR)).take (Int.toNat a)))))
def pz (a0 : List iR) (f1 : iR → Option Bool) : Option (List iR) :=
 ((mU a0 f1).bind fun a => (if (a == (-1)) then some a0 else lX f1 jM a0 a (wi0 .i64 (a + 1))))
def w8 (a0 : iR) : Option Bool :=
 ((nl a0).bind fun a => some (!a))
def mG (c : Int) : Nat → (List iR) → Int → Int → Option ((List iR) × Int)
 | 0, _, _, _ => none
 | i + 1, a, d, g => (if (decide (g < ((a.length - (Int.toNat c) : Nat) : Int))) then ((((kx (a.drop (Int.toNat c)) g).bind fun k => ((kx (a.drop (Int.toNat c)) (wi0 .i64 (g - 1))).bind fun m => (if (!(jh k m)) then ((kx (a.drop (Int.toNat c)) g).bind fun n => ((kx a d).bind fun o => some ((a.set (Int.toNat d) n), (wi0 .i64 (d + 1))))) else some (a, d)))) : Option ((List iR) × Int)).bind fun (h, j) => (mG c i h j (wi0 .i64 (g + 1)))) else some (a, d))
def mN (a0 : List iR) : Nat → Int → Option (List iR)
 | 0, _ => none
 | g + 1, a => (if (decide (a < (a0.length : Int))) then ((kx a0 a).bind fun h => ((kx a0 (wi0 .i64 (a - 1))).bind fun i => (if (jh h i) then ((lI (decide (0 ≤ a) && decide (a ≤ (a0.length : Int)))).bind fun _ => ((mG a jM a0 a 1).bind fun (d, c) => ((lI (decide (0 ≤ c) && decide (c ≤ (d.length : Int)))).bind fun _ => ((lI (decide (0 ≤ c) && decide (c ≤ ((ml d (Int.toNat c) (⟨zS, zS⟩ : iR)).length : Int)))).bind fun _ => some ((ml d (Int.toNat c) (⟨zS, zS⟩ : iR)).take (Int.toNat c)))))) else (mN a0 g (wi0 .i64 (a + 1)))))) else some a0)
def rF (a0 : List iR) : Option (List iR) :=
 (if (decide ((a0.length : Int) < 2)) then some a0 else mN a0 jM 1)
def zA (a0 : List iR) : Option (List iR) :=
 ((qm a0).bind fun g => ((pz g (fun (x : iR) => w8 x)).bind fun a => ((wg (fun (x : (iR × iR)) => lP x.1 x.2) a).bind fun c => ((rF c).bind fun d => some d))))
def oR (g : List iR) : List iR → Nat → Option Bool
 | [], _ => some true
 | d :: c, i90 => ((kx g (i90 : Int)).bind fun a => (if (!(jh d a)) then some false else (oR g c (i90 + 1))))
def sM (a0 a : List iR) : Option Bool :=
 (if ((a0.length : Int) != (a.length : Int)) then some false else oR a a0 0)
def vj (g : List iR) : List iR → Nat → Option Bool
 | [], _ => some true
 | d :: c, i90 => ((kx g (i90 : Int)).bind fun a => (if (!(jh d a)) then some false else (vj g c (i90 + 1))))
def As (a0 a : List iR) : Option Bool :=
 (if ((a0.length : Int) != (a.length : Int)) then some false else vj a a0 0)
def qP (c : Int) : Option (List jk) :=
 (if (decide (c < 0)) then none else (((if (decide ((wi0 .i64 (c - (wi0 .i64 (0 - 0)))) > 0)) then ((Gu 184 (⟨(⟨0, (⟨zS, zS⟩ : iR), zS, (⟨zS, zS⟩ : iR), (⟨zS, zS⟩ : iR), zS⟩ : iS), (⟨(⟨zS, zS⟩ : iR), zS⟩ : iV)⟩ : jk) (wi0 .i64 (c - (wi0 .i64 (0 - 0))))).bind fun a => ((lI (decide (0 ≤ 0) && decide (0 ≤ (a.length : Int)))).bind fun _ => some (a.take (Int.toNat 0)))) else some ([])) : Option (List jk)).bind fun d => some d))
def mZ  : List (List jk) → (List jk) → Option (List jk)
 | [], a => some a
 | g :: c, a => ((kR 184 a g).bind fun d => (mZ c d))
def mW (a0 : List (List jk)) : List (List jk) → Int → Option (List jk)
 | [], a => ((qP a).bind fun h => ((mZ a0 h).bind fun c => some c))
 | d :: g, a => (if (decide ((wi0 .i64 (a + (d.length : Int))) < 0)) then none else (mW a0 g (wi0 .i64 (a + (d.length : Int)))))
def uJ (a0 : List (List jk)) : Option (List jk) :=
 mW a0 a0 0
def po  : List jk → (List (iV × Bool)) → (List jk) → Option (List jk)
 | [], a, c => some c
 | g :: d, a, c => (if (!(wj lf a g.iV false)) then ((kR 184 c ([g])).bind fun h => (po d (lZ lf a g.iV true) h)) else (po d a c))
def xb (a0 : List (List jk)) : Option (List jk) :=
 ((uJ a0).bind fun a => po a ([]) ([]))
def vq (g : List jk) : List jk → Nat → Option Bool
 | [], _ => some true
 | d :: c, i90 => ((kx g (i90 : Int)).bind fun a => (if (!(zV d a)) then some false else (vq g c (i90 + 1))))
def Ab (a0 a : List jk) : Option Bool :=
 (if ((a0.length : Int) != (a.length : Int)) then some false else vq a a0 0)
def qK  : List jk → (List iV) → Option (List iV)
 | [], a => some a
 | g :: d, a => ((kR 48 a ([g.iV])).bind fun c => (qK d c))
def th (a0 : List jk) : Option (List iV) :=
 qK a0 ([])
def qz  : List iV → (List ByteArray) → Option (List ByteArray)
 | [], a => some a
 | g :: d, a => ((kR 16 a ([g.jA])).bind fun c => (qz d c))
def zl (a0 : List iV) : Option (List ByteArray) :=
 qz a0 ([])
def vl (a0 : jk) (i : List iV) : Option Bool :=
 ((tf a0.iS).bind fun a => ((if a then some (jh a0.iV.iR a0.iS.Head) else some false).bind fun g => ((if g then ((zl i).bind fun c => ((vC i a0.iS c a0.iV.jA).bind fun d => some d)) else some false).bind fun h => some h)))
def qH (n : List iS) (a0 : List jk) (a2 : iV) : List jk → Nat → Option (Int × Int)
 | [], _ => ((th a0).bind fun j => ((qO j a2.iR a2.jA).bind fun k => (if (!k) then some ((a0.length : Int), 42) else some ((a0.length : Int), 0))))
 | c :: d, a => ((yB n c.iS).bind fun g => ((if (!g) then some true else ((lI (decide (0 ≤ (a : Int)) && decide ((a : Int) ≤ (a0.length : Int)))).bind fun _ => ((th (a0.take (Int.toNat (a : Int)))).bind fun h => ((vl c h).bind fun i => some (!i))))).bind fun m => (if m then some ((a : Int), 50) else (qH n a0 a2 d (a + 1)))))
def zc (a0 : List jk) (a : List iS) (a2 : iV) : Option (Int × Int) :=
 qH a a0 a2 a0 0
def qJ (k : List iS) (j : List iV) (a2 : iV) (a0 : List jk) : List jk → Nat → Option (Int × Int)
 | [], _ => ((oJ j a2).bind fun h => (if (!h) then some ((a0.length : Int), 42) else some ((a0.length : Int), 0)))
 | a :: c, i339 => ((wo k a.iS).bind fun d => ((if (!d) then some true else ((lI (decide (0 ≤ (i339 : Int)) && decide ((i339 : Int) ≤ (j.length : Int)))).bind fun _ => ((rC a (j.take (Int.toNat (i339 : Int)))).bind fun g => some (!g)))).bind fun i => (if i then some ((i339 : Int), 50) else (qJ k j a2 a0 c (i339 + 1)))))
def uM (a0 : List jk) (a : List iS) (a2 : iV) : Option (Int × Int) :=
 ((te a0).bind fun c => qJ a c a2 a0 a0 0)
def sC  : List jk → Int → Option Int
 | [], a => some a
 | c :: g, a => ((ta ([c.iS])).bind fun d => (sC g (wi0 .i64 (a + (wi0 .i64 ((wi0 .i64 ((wi0 .i64 (d + (c.iV.jA.size : Int))) + (c.iV.iR.ja.size : Int))) + (c.iV.iR.jt.size : Int)))))))
def zj (a0 : List jk) : Option Int :=
 sC a0 0
def pp (rec : Formula → Option (List iR)) : List Formula → (List iR) → Option (List iR)
 | [], a => some a
 | h :: c, a => ((rec h).bind fun g => ((kR 32 a g).bind fun d => (pp rec c d)))
def uz (rec : Formula → Option (List iR)) (a0 : Formula) : Option (List iR) :=
 (if (a0.Op == 1) then some [a0.iR] else pp rec a0.Kids ([]))
def pC : Nat → Formula → Option (List iR)
 | 0 => fun _ => none
 | n + 1 => uz (pC n)
def tF (a0 : Formula) : Option (List iR) :=
 ((pC jM a0).bind fun c => ((zA c).bind fun a => some a))
def oQ (d : iR) : List iR → Nat → Option Int
 | [], _ => some (-1)
 | c :: a, i46 => (if (jh d c) then some (i46 : Int) else (oQ d a (i46 + 1)))
def ve (a0 : List iR) (a : iR) : Option Int :=
 oQ a a0 0
def tM (a0 : List iR) (a : iR) : Option Bool :=
 ((ve a0 a).bind fun c => some (decide (c ≥ 0)))
def zH (a0 : List iR) (a : iR) : Option Bool :=
 ((tM a0 a).bind fun c => some c)
def nV (g : Int) : List iR → Nat → (List iR) → Option (List iR)
 | [], _, a => some a
 | h :: c, i72, a => ((lI (decide (0 ≤ (i72 : Int)))).bind fun _ => (if ((wi0 .i64 (BitVec.ofInt (IntKind.bits .i64) (Int.fdiv g (2 ^ min (Int.toNat (i72 : Int)) (IntKind.bits .i64))) &&& BitVec.ofInt (IntKind.bits .i64) 1).toNat) == 1) then ((kR 32 a ([h])).bind fun d => (nV g c (i72 + 1) d)) else (nV g c (i72 + 1) a)))
def rL (a0 : List iR) (a : Int) : Option (List iR) :=
 nV a a0 0 ([])
def nN (a0 : iR) (a : List iR) : Option Bool :=
 ((zH a a0).bind fun c => some c)
def nx (a0 : Formula) (a : List iR) : Option Bool :=
 ((sr a0 (fun (x : iR) => nN x a)).bind fun c => some c)
def pV (c : Nat) (g : List Bool) (h : Bool) : List iR → Nat → Bool → Option Bool
 | [], _, d => some d
 | n :: i, a, d => ((if d then some true else ((lI (decide (0 ≤ (a : Int)))).bind fun _ => ((if ((wi0 .i64 (BitVec.ofInt (IntKind.bits .i64) (Int.fdiv (c : Int) (2 ^ min (Int.toNat (a : Int)) (IntKind.bits .i64))) &&& BitVec.ofInt (IntKind.bits .i64) 1).toNat) == 1) then ((lI (decide (0 ≤ (a : Int)))).bind fun _ => ((kx (g.set (Int.toNat (c : Int)) h) (wi0 .i64 (BitVec.ofInt (IntKind.bits .i64) (c : Int) &&& ~~~ BitVec.ofInt (IntKind.bits .i64) (wi0 .i64 (1 * 2 ^ min (Int.toNat (a : Int)) (IntKind.bits .i64)))).toNat)).bind fun m => some m)) else some false).bind fun k => some k))).bind fun j => (pV c g h i (a + 1) j))
def pA (o : List iR) (a0 : Formula) : List Bool → Nat → (List Bool) → (List Int) → Option (List Int)
 | [], _, c, d => some d
 | p :: h, a, c, d => ((rL o (a : Int)).bind fun j => ((nx a0 j).bind fun g => ((kx c (a : Int)).bind fun q => ((pV a c g o 0 false).bind fun k => ((kx (c.set (Int.toNat (a : Int)) g) (a : Int)).bind fun m => ((if m then some (!k) else some false).bind fun n => (if n then ((kR 8 d ([(a : Int)])).bind fun i => (pA o a0 h (a + 1) (c.set (Int.toNat (a : Int)) g) i)) else (pA o a0 h (a + 1) (c.set (Int.toNat (a : Int)) g) d))))))))
def xN (a0 : Formula) (a : List iR) : Option (List Int) :=
 ((lI (decide (0 ≤ (a.length : Int)))).bind fun _ => ((D6 1 false (wi0 .i64 (1 * 2 ^ min (Int.toNat (a.length : Int)) (IntKind.bits .i64)))).bind fun c => pA a a0 c 0 c ([])))
def xK (a0 : Int) : Option Bool :=
 some (a0 != a0)
def wD (a0 a : Int) : Option Int :=
 ((xK a0).bind fun d => ((xK a).bind fun c => (if d then (if c then some 0 else some (-1)) else (if c then some 1 else (if (decide (a0 < a)) then some (-1) else (if (decide (a0 > a)) then some 1 else some 0))))))
def kv (g : List iR) (f2 : (iR × iR) → Option Int) (a0 : List iR) : List iR → Nat → Option Int
 | [], _ => (if (decide ((a0.length : Int) < (g.length : Int))) then some (-1) else some 0)
 | h :: d, i75 => (if (decide ((i75 : Int) ≥ (g.length : Int))) then some 1 else ((kx g (i75 : Int)).bind fun c => ((f2 (h, c)).bind fun a => (if (a != 0) then some a else (kv g f2 a0 d (i75 + 1))))))
def lF (a0 a : List iR) (f2 : (iR × iR) → Option Int) : Option Int :=
 kv a f2 a0 a0 0
def sn (a0 a : List iR) : Option Int :=
 ((wD (a0.length : Int) (a.length : Int)).bind fun c => ((lF a0 a (fun (x : (iR × iR)) => lP x.1 x.2)).bind fun d => ((sx ([c, d])).bind fun g => some g)))
def tC (j : List iR) : List Int → (List (List iR)) → Option ((List (List iR)) × Int)
 | [], a => (if (decide ((a.length : Int) > 128)) then some ([], 12) else ((Ew (fun (x : ((List iR) × (List iR))) => sn x.1 x.2) a).bind fun h => some (h, 0)))
 | i :: c, a => ((rL j i).bind fun g => ((kR 24 a ([g])).bind fun d => (tC j c d)))
def xI (a0 : Formula) : Option ((List (List iR)) × Int) :=
 ((oD a0).bind fun d => (if (!d) then some ([], 11) else ((tF a0).bind fun c => (if (decide ((c.length : Int) > 12)) then some ([], 12) else ((xN a0 c).bind fun a => tC c a ([]))))))
def mg (a0 : List iR) (f1 : iR → Option Bool) : Option Bool :=
 ((mU a0 f1).bind fun a => some (decide (a ≥ 0)))
def vp (a0 : iR) (a : iR → Option Bool) : Option Bool :=
 ((a a0).bind fun c => some (!c))
def vn (f1 : iR → Option Bool) : List (List iR) → Option ((List iR) × Bool)
 | [] => some ([], false)
 | c :: d => ((mg c (fun (x : iR) => vp x f1)).bind fun a => (if (!a) then some (c, true) else (vn f1 d)))
def xG (a0 : Formula) (f1 : iR → Option Bool) : Option ((List iR) × Bool) :=
 ((xI a0).bind fun a => ((if (a.2 != 0) then some true else some false).bind fun c => (if c then some ([], false) else vn f1 a.1)))
structure jo where
 b : List Int
 kE : Bool
def sH (a c : List Int) : Option (Bool × (List Int)) :=
 ((kR 1 a c).bind fun d => some (true, d))
def rS (c : List Int) (a : Bool) : Option Bool :=
 some a
def kJ (a0 : jo) (a : Int) : Option (Int ⊕ Unit) :=
 ((if (!a0.kE) then some (a != 0) else some false).bind fun x2 => (if x2 then some (Sum.inl a) else some (Sum.inr ())))
def sa (a0 : jo) (p : Int) : Option (Int ⊕ (Int × jo)) :=
 (((if (p == 9) then ((kJ a0 11).bind fun m => match m with | .inl h => some (Sum.inl (Sum.inl h)) | .inr u => some (Sum.inr ())) else some (Sum.inr ())) : Option ((Int ⊕ (Int × jo)) ⊕ Unit)).bind fun s => match s with | .inl i => some i | .inr _ => (((if ((a0.b.length : Int) == 0) then ((kJ a0 10).bind fun k => match k with | .inl d => some (Sum.inl (Sum.inl d)) | .inr t => some (Sum.inr ())) else some (Sum.inr ())) : Option ((Int ⊕ (Int × jo)) ⊕ Unit)).bind fun s => match s with | .inl g => some g | .inr _ => ((kx a0.b 0).bind fun o => ((lI (decide (0 ≤ 1) && decide (1 ≤ (a0.b.length : Int)))).bind fun _ => ((((if (o == 0) then some (decide (p > 0)) else some false).bind fun n => (if n then ((kJ (⟨(a0.b.drop (Int.toNat 1)), a0.kE⟩ : jo) 11).bind fun j => match j with | .inl a => some (Sum.inl (Sum.inl a)) | .inr q => some (Sum.inr ())) else some (Sum.inr ()))) : Option ((Int ⊕ (Int × jo)) ⊕ Unit)).bind fun s => match s with | .inl c => some c | .inr _ => some (Sum.inr (o, (⟨(a0.b.drop (Int.toNat 1)), a0.kE⟩ : jo))))))))
def lL (o : Int) : Nat → Int → Int → (List Int) → Bool → Option (Int ⊕ (Int × jo))
 | 0, _, _, _, _ => none
 | n161 + 1, d, c, g, n => ((sa (⟨g, n⟩ : jo) c).bind fun m => match m with | .inl h => some (Sum.inl h) | .inr a => ((lI (decide (0 ≤ (wi0 .i64 (7 * c))))).bind fun _ => (if (decide (a.1 < 128)) then (((if (decide ((wi0 .i64 (BitVec.ofInt (IntKind.bits .i64) d ||| BitVec.ofInt (IntKind.bits .i64) (wi0 .i64 ((wi0 .i64 (IntKind.u8.wrap (BitVec.ofInt (IntKind.bits .u8) a.1 &&& BitVec.ofInt (IntKind.bits .u8) 127).toNat)) * 2 ^ min (Int.toNat (wi0 .i64 (7 * c))) (IntKind.bits .i64)))).toNat) > o)) then ((kJ a.2 12).bind fun k => match k with | .inl i => some (Sum.inl (Sum.inl i)) | .inr p => some (Sum.inr ())) else some (Sum.inr ())) : Option ((Int ⊕ (Int × jo)) ⊕ Unit)).bind fun s => match s with | .inl j => some j | .inr _ => some (Sum.inr ((wi0 .i64 (BitVec.ofInt (IntKind.bits .i64) d ||| BitVec.ofInt (IntKind.bits .i64) (wi0 .i64 ((wi0 .i64 (IntKind.u8.wrap (BitVec.ofInt (IntKind.bits .u8) a.1 &&& BitVec.ofInt (IntKind.bits .u8) 127).toNat)) * 2 ^ min (Int.toNat (wi0 .i64 (7 * c))) (IntKind.bits .i64)))).toNat), a.2))) else (lL o n161 (wi0 .i64 (BitVec.ofInt (IntKind.bits .i64) d ||| BitVec.ofInt (IntKind.bits .i64) (wi0 .i64 ((wi0 .i64 (IntKind.u8.wrap (BitVec.ofInt (IntKind.bits .u8) a.1 &&& BitVec.ofInt (IntKind.bits .u8) 127).toNat)) * 2 ^ min (Int.toNat (wi0 .i64 (7 * c))) (IntKind.bits .i64)))).toNat) (wi0 .i64 (c + 1)) ((a.2).b) ((a.2).kE)))))
def kW (a0 : jo) (a : Int) : Option (Int ⊕ (Int × jo)) :=
 ((rS a0.b a0.kE).bind fun c => (if c then some (Sum.inr (0, a0)) else lL a jM 0 0 a0.b a0.kE))
def rZ (a0 : jo) (o : Int) : Option (Int ⊕ ((List Int) × jo)) :=
 ((rS a0.b a0.kE).bind fun p => (if p then some (Sum.inr ([], a0)) else ((kW a0 9223372036854775807).bind fun j => match j with | .inl k => some (Sum.inl k) | .inr a => (((if (decide (a.1 > o)) then ((kJ a.2 12).bind fun h => match h with | .inl c => some (Sum.inl (Sum.inl c)) | .inr q => some (Sum.inr ())) else (if (decide (a.1 > (((a.2).b).length : Int))) then ((kJ a.2 10).bind fun i => match i with | .inl d => some (Sum.inl (Sum.inl d)) | .inr n => some (Sum.inr ())) else some (Sum.inr ()))) : Option ((Int ⊕ ((List Int) × jo)) ⊕ Unit)).bind fun s => match s with | .inl g => some g | .inr _ => ((lI (decide (0 ≤ a.1) && decide (a.1 ≤ (((a.2).b).length : Int)))).bind fun _ => ((nq (((a.2).b).take (Int.toNat a.1))).bind fun m => ((lI (decide (0 ≤ a.1) && decide (a.1 ≤ (((a.2).b).length : Int)))).bind fun _ => some (Sum.inr (m, (⟨(((a.2).b).drop (Int.toNat a.1)), (a.2).kE⟩ : jo))))))))))
def ra (a0 : jo) : Option (Int ⊕ (ByteArray × jo)) :=
 ((rZ a0 16).bind fun i => match i with | .inl c => some (Sum.inl c) | .inr a => ((nO (yV a.1)).bind fun g => (if (!g) then ((kJ a.2 30).bind fun h => match h with | .inl d => some (Sum.inl d) | .inr j => some (Sum.inr (zS, a.2))) else some (Sum.inr ((yV a.1), a.2)))))
def pJ (a0 : jo) : Option (Int ⊕ (iR × jo)) :=
 ((ra a0).bind fun h => match h with | .inl c => some (Sum.inl c) | .inr i => ((ra i.2).bind fun g => match g with | .inl d => some (Sum.inl d) | .inr a => some (Sum.inr ((⟨i.1, a.1⟩ : iR), a.2))))
def xT (a0 : jo) : Option (Int ⊕ (iS × jo)) :=
 ((kW a0 9223372036854775807).bind fun T => match T with | .inl W => some (Sum.inl W) | .inr c => ((((if (decide (c.1 < 1)) then some true else some (decide (c.1 > 4))).bind fun U => (if U then ((kJ c.2 11).bind fun R => match R with | .inl z => some (Sum.inl (Sum.inl z)) | .inr a1 => some (Sum.inr ())) else some (Sum.inr ()))) : Option ((Int ⊕ (iS × jo)) ⊕ Unit)).bind fun s => match s with | .inl A => some A | .inr _ => ((pJ c.2).bind fun Q => match Q with | .inl Y => some (Sum.inl Y) | .inr a => (((if (c.1 == 1) then ((ra a.2).bind fun G => match G with | .inl q => some (Sum.inl (Sum.inl q)) | .inr g => some (Sum.inr ((⟨c.1, a.1, g.1, (⟨zS, zS⟩ : iR), (⟨zS, zS⟩ : iR), zS⟩ : iS), ((g.2).b), ((g.2).kE)))) else (if (c.1 == 2) then ((pJ a.2).bind fun I => match I with | .inl t => some (Sum.inl (Sum.inl t)) | .inr h => some (Sum.inr ((⟨c.1, a.1, zS, h.1, (⟨zS, zS⟩ : iR), zS⟩ : iS), ((h.2).b), ((h.2).kE)))) else (if (c.1 == 3) then ((pJ a.2).bind fun L => match L with | .inl u => some (Sum.inl (Sum.inl u)) | .inr m => ((ra m.2).bind fun J => match J with | .inl v => some (Sum.inl (Sum.inl v)) | .inr i => some (Sum.inr ((⟨c.1, a.1, zS, m.1, (⟨zS, zS⟩ : iR), i.1⟩ : iS), ((i.2).b), ((i.2).kE))))) else (if (c.1 == 4) then ((pJ a.2).bind fun P => match P with | .inl w => some (Sum.inl (Sum.inl w)) | .inr n => ((pJ n.2).bind fun M => match M with | .inl x => some (Sum.inl (Sum.inl x)) | .inr j => some (Sum.inr ((⟨c.1, a.1, zS, n.1, j.1, zS⟩ : iS), ((j.2).b), ((j.2).kE))))) else some (Sum.inr ((⟨c.1, a.1, zS, (⟨zS, zS⟩ : iR), (⟨zS, zS⟩ : iR), zS⟩ : iS), ((a.2).b), ((a.2).kE))))))) : Option ((Int ⊕ (iS × jo)) ⊕ (iS × (List Int) × Bool))).bind fun s => match s with | .inl y => some y | .inr (o, d, k) => ((nn o).bind fun D => (if (!D) then ((kJ (⟨d, k⟩ : jo) 11).bind fun E => match E with | .inl p => some (Sum.inl p) | .inr Z => some (Sum.inr ((⟨0, (⟨zS, zS⟩ : iR), zS, (⟨zS, zS⟩ : iR), (⟨zS, zS⟩ : iR), zS⟩ : iS), (⟨d, k⟩ : jo)))) else some (Sum.inr (o, (⟨d, k⟩ : jo)))))))))
structure jP where
 State : Int
 mq : Int
 jL : List iR
 jQ : List jk
def tj (a0 : zg) (a2 a3 : Int) (c : ((List iR) × Bool)) : List iR → (List jk) → Option jP
 | [], a => some (⟨a2, a3, c.1, a⟩ : jP)
 | i :: d, a => ((uf a0.oz (⟨i, a0.rU⟩ : iV)).bind fun g => ((xb ([a, g.1])).bind fun h => (tj a0 a2 a3 c d h)))
def pS (a0 : zg) (g : Formula) (a2 a3 : Int) (a4 : Bool) : Option jP :=
 ((if (!a4) then some true else some (a2 != 1)).bind fun d => (if d then some (⟨a2, a3, [], []⟩ : jP) else ((A2 a0).bind fun a => ((xG g (fun (x : iR) => vI x a.1 a.2.1 a.2.2.1 a.2.2.2.1 a.2.2.2.2.1 a.2.2.2.2.2.1 a.2.2.2.2.2.2.1 a0.mc.pa a0.mc.Aa a.2.2.2.2.2.2.2.1 a.2.2.2.2.2.2.2.2 a0.oz a0.Shown a0.lq a0.Ct)).bind fun c => (if (!c.2) then some (⟨a2, a3, [], []⟩ : jP) else tj a0 a2 a3 c c.1 ([]))))))
def tD (a0 : iR) : Option Bool :=
 ((nl a0).bind fun a => some (!a))
def vk (a0 : jP) : Option Bool :=
 ((if (decide (a0.State ≥ 0)) then some (decide (a0.State ≤ 3)) else some false).bind fun i => ((if i then some (decide (a0.mq ≥ 0)) else some false).bind fun c => ((if c then some (decide (a0.mq ≤ 99)) else some false).bind fun d => ((if d then some (decide ((a0.jL.length : Int) ≤ 64)) else some false).bind fun g => ((if g then ((mg a0.jL (fun (x : iR) => tD x)).bind fun a => some (!a)) else some false).bind fun h => some h)))))
def nm (f1 : jk → Option Bool) : List jk → Nat → Option Int
 | [], _ => some (-1)
 | d :: a, i35 => ((f1 d).bind fun c => (if c then some (i35 : Int) else (nm f1 a (i35 + 1))))
def sT (a0 : List jk) (f1 : jk → Option Bool) : Option Int :=
 nm f1 a0 0
def oX (a0 : List jk) (f1 : jk → Option Bool) : Option Bool :=
 ((sT a0 f1).bind fun a => some (decide (a ≥ 0)))
def wQ (a0 : jk) : Option Bool :=
 ((nn a0.iS).bind fun d => ((if d then some (jh a0.iV.iR a0.iS.Head) else some false).bind fun g => ((if g then ((nO a0.iV.jA).bind fun a => some a) else some false).bind fun c => some c)))
def wk (a0 : jk) : Option Bool :=
 ((wQ a0).bind fun a => some (!a))
def qu  : List jk → (List Int) → Option (Bool × (List Int))
 | [], a => some (true, a)
 | c :: d, a => ((sE c.iS).bind fun g => ((sH a g).bind fun h => ((oT h.2 c.iV.jA).bind fun i => (qu d i.2))))
def w4 (a : List Int) (d : List jk) : Option (Bool × (List Int)) :=
 ((if (decide ((d.length : Int) > 256)) then some true else ((oX d (fun (x : jk) => wk x)).bind fun c => some c)).bind fun x5 => (if x5 then some (false, a) else ((kI a (d.length : Int)).bind fun g => qu d g.2)))
def pr (g : List Int) : List iR → (List Int) → Option (Bool × (List Int))
 | [], a => ((nQ g).bind fun i => ((sH a i).bind fun c => some (c.1, c.2)))
 | j :: d, a => ((mK a j).bind fun h => (pr g d h.2))
def tq (a : List Int) (d : jP) : Option (Bool × (List Int)) :=
 ((vk d).bind fun m => (((if (!m) then some (true, ([])) else ((w4 ([]) d.jQ).bind fun c => some ((!c.1), c.2))) : Option (Bool × (List Int))).bind fun (k, g) => (if k then some (false, a) else ((kI a d.State).bind fun h => ((kI h.2 d.mq).bind fun i => ((kI i.2 (d.jL.length : Int)).bind fun j => pr g d.jL j.2))))))
def pg (q : (Int × jo)) : Nat → (List jk) → Int → (List Int) → Bool → Option (Int ⊕ ((List jk) × jo))
 | 0, _, _, _, _ => none
 | k + 1, d, h, g, i => (if (decide (h < q.1)) then ((xT (⟨g, i⟩ : jo)).bind fun p => match p with | .inl m => some (Sum.inl m) | .inr a => ((ra a.2).bind fun o => match o with | .inl n => some (Sum.inl n) | .inr c => ((kR 184 d ([(⟨a.1, (⟨a.1.Head, c.1⟩ : iV)⟩ : jk)])).bind fun j => (pg q k j (wi0 .i64 (h + 1)) ((c.2).b) ((c.2).kE))))) else some (Sum.inr (d, (⟨g, i⟩ : jo))))
def xc (a0 : jo) (g : Int) : Option (Int ⊕ ((List jk) × jo)) :=
 ((kW a0 g).bind fun a => match a with | .inl c => some (Sum.inl c) | .inr d => pg d jM ([]) 0 ((d.2).b) ((d.2).kE))
def nM (p t o : (Int × jo)) : Nat → Int → (List iR) → (List Int) → Bool → Option (Int ⊕ (jP × jo))
 | 0, _, _, _, _ => none
 | k + 1, h, d, g, i => (if (decide (h < p.1)) then ((pJ (⟨g, i⟩ : jo)).bind fun q => match q with | .inl m => some (Sum.inl m) | .inr a => ((kR 32 d ([a.1])).bind fun j => (nM p t o k (wi0 .i64 (h + 1)) j ((a.2).b) ((a.2).kE)))) else ((xc (⟨g, i⟩ : jo) 256).bind fun s => match s with | .inl n => some (Sum.inl n) | .inr c => some (Sum.inr ((⟨t.1, o.1, d, c.1⟩ : jP), (⟨(c.2).b, (c.2).kE⟩ : jo)))))
def tB (a0 : jo) : Option (Int ⊕ (jP × jo)) :=
 ((kW a0 3).bind fun h => match h with | .inl i => some (Sum.inl i) | .inr m => ((kW m.2 99).bind fun g => match g with | .inl j => some (Sum.inl j) | .inr c => ((kW c.2 64).bind fun d => match d with | .inl k => some (Sum.inl k) | .inr a => nM a m c jM 0 ([]) ((a.2).b) ((a.2).kE))))
def yR (a0 : jo) (g : jP) : Option (Int ⊕ (jo × jP)) :=
 ((tB a0).bind fun c => match c with | .inl a => some (Sum.inl a) | .inr d => some (Sum.inr (d.2, d.1)))
def sV (a0 : List Int) (a : jP) : Option (Int × jP) :=
 ((nq a0).bind fun l => ((yR (⟨l, false⟩ : jo) a).bind fun s => some ((FE (fun r => (r.1).b) s), (match s with | .inl _ => a | .inr r => r.2))))
def qY (a0 : jP) (g : List iS) (a3 : ByteArray) : List iR → Option Int
 | [] => some 0
 | d :: c => ((uM a0.jQ g (⟨d, a3⟩ : iV)).bind fun a => (if (a.2 != 0) then some a.2 else (qY a0 g a3 c)))
def lQ (a0 : jP) (d : List iS) (a2 : Formula) (a3 : ByteArray) : Option Int :=
 (if (a0.State != 1) then some 43 else ((nx a2 a0.jL).bind fun c => (if (!c) then some 44 else ((uM a0.jQ d (⟨(⟨zS, zS⟩ : iR), zS⟩ : iV)).bind fun a => (if (a.2 == 50) then some a.2 else qY a0 d a3 a0.jL)))))
def oW (g : List jk) : List jk → Nat → Option Bool
 | [], _ => some true
 | d :: c, i90 => ((kx g (i90 : Int)).bind fun a => (if (!(zV d a)) then some false else (oW g c (i90 + 1))))
def sL (a0 a : List jk) : Option Bool :=
 (if ((a0.length : Int) != (a.length : Int)) then some false else oW a a0 0)
def wm (a0 a : jP) : Option Bool :=
 ((if (a0.State == a.State) then some (a0.mq == a.mq) else some false).bind fun g => ((if g then ((sM a0.jL a.jL).bind fun d => some d) else some false).bind fun h => ((if h then ((sL a0.jQ a.jQ).bind fun c => some c) else some false).bind fun i => some i)))
def wR  : Option Bool :=
 ((pS (⟨(⟨(⟨#[109, 101]⟩ : ByteArray), [], []⟩ : mc), (⟨#[121, 111, 117]⟩ : ByteArray), 3, [(⟨1, (⟨(⟨#[120]⟩ : ByteArray), (⟨#[121]⟩ : ByteArray)⟩ : iR), (⟨#[121, 111, 117]⟩ : ByteArray), (⟨zS, zS⟩ : iR), (⟨zS, zS⟩ : iR), zS⟩ : iS)], [], [], []⟩ : zg) (⟨1, 0, (⟨(⟨#[120]⟩ : ByteArray), (⟨#[121]⟩ : ByteArray)⟩ : iR), []⟩ : Formula) 1 0 true).bind fun a => ((pS (⟨(⟨(⟨#[109, 101]⟩ : ByteArray), [], []⟩ : mc), (⟨#[121, 111, 117]⟩ : ByteArray), 3, [(⟨1, (⟨(⟨#[120]⟩ : ByteArray), (⟨#[121]⟩ : ByteArray)⟩ : iR), (⟨#[121, 111, 117]⟩ : ByteArray), (⟨zS, zS⟩ : iR), (⟨zS, zS⟩ : iR), zS⟩ : iS)], [], [], []⟩ : zg) (⟨1, 0, (⟨(⟨#[120]⟩ : ByteArray), (⟨#[121]⟩ : ByteArray)⟩ : iR), []⟩ : Formula) 1 0 false).bind fun c => ((tq ([]) a).bind fun k => ((nQ k.2).bind fun x => ((sV x (⟨0, 0, [], []⟩ : jP)).bind fun m => ((if ((((a).jL).length : Int) == 1) then some ((((a).jQ).length : Int) == 1) else some false).bind fun n => ((if n then ((lQ (⟨(a).State, (a).mq, (a).jL, (a).jQ⟩ : jP) ([(⟨1, (⟨(⟨#[120]⟩ : ByteArray), (⟨#[121]⟩ : ByteArray)⟩ : iR), (⟨#[121, 111, 117]⟩ : ByteArray), (⟨zS, zS⟩ : iR), (⟨zS, zS⟩ : iR), zS⟩ : iS)]) (⟨1, 0, (⟨(⟨#[120]⟩ : ByteArray), (⟨#[121]⟩ : ByteArray)⟩ : iR), []⟩ : Formula) (⟨#[121, 111, 117]⟩ : ByteArray)).bind fun j => some (j == 0)) else some false).bind fun o => ((if o then ((lQ (⟨(a).State, (a).mq, (a).jL, (a).jQ⟩ : jP) ([]) (⟨1, 0, (⟨(⟨#[120]⟩ : ByteArray), (⟨#[121]⟩ : ByteArray)⟩ : iR), []⟩ : Formula) (⟨#[121, 111, 117]⟩ : ByteArray)).bind fun i => some (i == 50)) else some false).bind fun p => ((if p then some ((wi0 .i64 ((((c).jL).length : Int) + (((c).jQ).length : Int))) == 0) else some false).bind fun q => ((if q then ((lQ (⟨(c).State, (c).mq, (c).jL, (c).jQ⟩ : jP) ([(⟨1, (⟨(⟨#[120]⟩ : ByteArray), (⟨#[121]⟩ : ByteArray)⟩ : iR), (⟨#[121, 111, 117]⟩ : ByteArray), (⟨zS, zS⟩ : iR), (⟨zS, zS⟩ : iR), zS⟩ : iS)]) (⟨1, 0, (⟨(⟨#[120]⟩ : ByteArray), (⟨#[121]⟩ : ByteArray)⟩ : iR), []⟩ : Formula) (⟨#[121, 111, 117]⟩ : ByteArray)).bind fun h => some (h == 44)) else some false).bind fun s => ((if s then some k.1 else some false).bind fun t => ((if t then some (m.1 == 0) else some false).bind fun u => ((if u then ((wm m.2 (⟨(a).State, (a).mq, (a).jL, (a).jQ⟩ : jP)).bind fun g => some g) else some false).bind fun v => ((if v then ((lQ (⟨0, 0, [], []⟩ : jP) ([]) (⟨1, 0, (⟨(⟨#[120]⟩ : ByteArray), (⟨#[121]⟩ : ByteArray)⟩ : iR), []⟩ : Formula) (⟨#[121, 111, 117]⟩ : ByteArray)).bind fun d => some (d == 43)) else some false).bind fun w => some w))))))))))))))
def sw (a0 : jP) (a3 : ByteArray) : List iR → Option Int
 | [] => some 0
 | g :: a => ((th a0.jQ).bind fun c => ((qO c g a3).bind fun d => (if (!d) then some 42 else (sw a0 a3 a))))
def wU (a0 : jP) (h : List iS) (a2 : Formula) (a3 : ByteArray) : Option Int :=
 (if (a0.State != 1) then some 43 else ((wV a2).bind fun c => ((if (!c) then some true else ((qW jM a2 a0.jL).bind fun a => some (!a))).bind fun g => (if g then some 44 else ((zc a0.jQ h (⟨(⟨zS, zS⟩ : iR), zS⟩ : iV)).bind fun d => (if (d.2 == 50) then some 50 else sw a0 a3 a0.jL))))))
structure sK where
 O : jP
 pa : List iS
 F : Formula
 rU : ByteArray
def sy  : List iR → Int → Option Int
 | [], a => some a
 | c :: d, a => (sy d (wi0 .i64 (a + (wi0 .i64 ((wi0 .i64 (5 + (c.ja.size : Int))) + (c.jt.size : Int))))))
def wT (a0 : jP) : Option Int :=
 ((zj a0.jQ).bind fun a => sy a0.jL a)
def pu (a0 : sK) : Option Bool :=
 (wR.bind fun c => (if (!c) then some false else ((wT a0.O).bind fun d => ((if (decide (d > 2000)) then some true else ((ta a0.pa).bind fun a => some (decide (a > 1500)))).bind fun j => ((if j then some true else ((qi jM ([a0.F])).bind fun i => some (decide (i > 150)))).bind fun k => ((if k then some true else some (decide ((a0.rU.size : Int) > 60))).bind fun m => (if m then some true else ((lQ a0.O a0.pa a0.F a0.rU).bind fun g => ((wU a0.O a0.pa a0.F a0.rU).bind fun h => some (g == h))))))))))
def DZ (a0 a : jP) : Option Bool :=
 ((if (a0.State == a.State) then some (a0.mq == a.mq) else some false).bind fun g => ((if g then ((As a0.jL a.jL).bind fun d => some d) else some false).bind fun h => ((if h then ((Ab a0.jQ a.jQ).bind fun c => some c) else some false).bind fun i => some i)))
def vv (a0 : jo) (g : jP) : Option (Int ⊕ (jo × jP)) :=
 ((tB a0).bind fun c => match c with | .inl a => some (Sum.inl a) | .inr d => some (Sum.inr (d.2, d.1)))
def tR (a0 : List Int) (a : jP) : Option (Int × jP) :=
 ((nq a0).bind fun l => ((vv (⟨l, false⟩ : jo) a).bind fun s => some ((FE (fun r => (r.1).b) s), (match s with | .inl _ => a | .inr r => r.2))))
end
end Go.Proofs.YtbnbdigcbldfhaaGreat
