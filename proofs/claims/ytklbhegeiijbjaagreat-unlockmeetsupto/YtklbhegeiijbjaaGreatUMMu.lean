/- a part of a proof of UnlockMeets -/
import Derived.Test.YtklbhegeiijbjaaGreatRtTu
import Derived.Laws.IdiomStrings
import Derived.Laws.MakeOwn
import Derived.Shelf.SlSortCmp.NoneTotal
import Derived.Shelf.SortM.Plain
import Derived.Shelf.SortM.SortNone
import Derived.Shelf.SlIter.Sorted
import Derived.Shelf.SlIter.Nil
import Derived.Test.YtklbhegeiijbjaaGreatProg
import Derived.KernelRfl
set_option linter.all false
namespace Go.Proofs.YtklbhegeiijbjaaGreat
open Go.IntKind renaming wrap → wi0
open Go.RowKit
def mj (dd : Bool) (P : Program) (f : FuncId) (args : List Value) (w : World) (μ0 : kL) (L0 : List (Nat × Obj)) (K : Value → List (Nat × Obj) → kL → Prop) : Prop :=
 Calls P f args.toArray w fun e a => ∃ v L1 μ1, e = .returned v ∧ uG dd L0 L1 w a ∧ kH μ0 μ1 ∧ Lo (keys L0) w μ0 μ1 ∧ kH μ1 (uz a L1) ∧ K v L1 μ1
theorem mj.lZ {dd : Bool} {P : Program} {f : FuncId} {args : List Value} {w : World} {μ0 : kL} {L0 : List (Nat × Obj)} {K : Value → List (Nat × Obj) → kL → Prop} (h : mj true P f args w μ0 L0 K) : mj dd P f args w μ0 L0 K :=
 cZ h fun _ _ ⟨v, L1, μ1, h1, a, b⟩ => ⟨v, L1, μ1, h1, a.lZ, b⟩
section
variable {dd : Bool} {F : Nat → Prop} {w W W' : World} {μ μ1 : kL} {L L0 L1 L2 : List (Nat × Obj)}
theorem ST.Sq (h : ST dd F w W μ (L0 ++ L)) (g : uG dd L0 L1 W W') (i : Lo (keys L0) W μ μ1) (d : kH μ1 (uz W' L1)) : ST dd F w W' μ1 (L1 ++ L) := by
 have h1 := h.back g
 refine ⟨h1.os, h1.tape, h1.output, h1.drawn, h1.size, h1.mR, fun b o hm => ?_, fun b o a => ?_, h1.nd⟩
 ·have := d b o hm
  unfold uz at this
  split at this
  ·cases this
  ·exact this
 ·obtain ⟨j, l, k⟩ := h1.box b o a
  refine ⟨j, ?_, k⟩
  rcases aQ.1 a with a | a
  ·cases hm : μ1 b with
   | none => rfl
   | some x =>
    have := d b x hm
    unfold uz at this
    rw [aV ⟨o, a⟩] at this
    cases this
  ·have c := h.box b o (dC _ a)
   rw [i b (oy c.1) (Ff h.nd a)]
   exact c.2.1
variable {P : Program} {E : Nat → Value} {d : Option Nat} {ty : TypeId} {pos : String} {af : Array Edge} {g : Option (Nat × Bool)}
theorem Gu {K : Value → World → Prop} {K' : Value → List (Nat × Obj) → kL → Prop} {f : FuncId} {fv : Operand} {ax : Array Operand} {ats : Array TypeId} {caps : Array Value} {args : List Value} (L0 L2 : List (Nat × Obj)) (a : ST dd F w W μ L) (c : L.Perm (L0 ++ L2)) (t : kp E fv = .func (.func f) #[] caps) (he : ∀ args w, (callFunc f args).run P w = .ok (.enter f args) w) (ha : ax.map (kp E) ++ (#[] : Array Value) = args.toArray) (s : DH L0 W → (L0.map (·.1)).Nodup → kH μ (uz W L0) → (∀ b o, (b, o) ∈ L2 → uz W L0 b = some o) → mj dd P f (args ++ caps.toList) W μ L0 K') (h : ∀ W' v μ' L1, ST dd F w W' μ' (L1 ++ L2) → kH μ μ' → Lo F w μ μ' → K' v L1 μ' → K v W') : nu P E ⟨d, .call ⟨.value fv, ax, ats⟩, ty, pos, af, g⟩ W K := by
 have i : ax.map (kp E) = args.toArray := by simpa using ha
 refine Fe (args := (args ++ caps.toList).toArray) t he (by rw [i]; simp) (cZ (s (a.held c) (a.Rq c) (a.R5 c) (a.LC c)) (fun _ W' ⟨v, L1, μ1, h1, k, l, j, m, n⟩ => ⟨v, h1, h W' v μ1 L1 ((a.perm c).Sq k j m) l (fun b r p => j b (ec r a.size) (fun ⟨o, u⟩ => by
  rcases ((a.perm c).box b o (bX _ u)).2.2 with q | q
  ·omega
  ·exact p q)) n⟩))
end
section
variable {P : Program} {E : Nat → Value} {W : World} {d : Option Nat} {ty : TypeId} {pos : String} {af : Array Edge} {g : Option (Nat × Bool)}
 {dd : Bool} {F : Nat → Prop} {w : World} {μ : kL} {L : List (Nat × Obj)}
def An {α : Type} (a : Nat) (z : α) (n : Int) : Option (List α) := if 0 ≤ n ∧ (a : Int) * n ≤ 140737488355328 ∧ n ≤ (maxLen : Int) then some (List.replicate n.toNat z) else none
theorem H0 {α : Type} {enc : α → List Value} {k : Nat} (hk : ∀ x, (enc x).length = k) (a : 0 < k) (z : α) (n : Nat) : (madeCells (enc z).toArray (n * k)).toList = ((List.replicate n z).map enc).flatten := by
 apply List.ext_getElem
 ·rw [pj hk, dl, size_madeCells]; simp
 ·intro i h1 g
  rw [dl, size_madeCells] at h1
  have h : i / k < n := by rw [ie a]; exact h1
  have c : i % k < (enc z).length := by rw [hk]; exact Nat.mod_lt _ a
  have b := xk hk (List.replicate n z) (i / k) z (by rw [List.getElem?_replicate, aV h]) (i % k) _ (cF c)
  rw [show i / k * k + i % k = i by rw [Nat.mul_comm]; exact Nat.div_add_mod i k] at b
  rw [cF g] at b
  have d := Option.some.inj b
  rw [d]
  simp only [madeCells, Array.getElem_toList, Array.getElem_map, Array.getElem_range, dp, hk]
  rw [gM _ _ (by simpa using c)]
  simp
theorem FG {K : Value → World → Prop} {α : Type} {e t : TypeId} {enc : α → List Value} {k a : Nat} {b : Value} {n : Int} {j : IntKind} {z : α} {r : List α} {x y : Operand} {i : TypeInfo} (l : ST dd F w W μ L) (hk : ∀ x, (enc x).length = k) (p : 0 < k) (J : P.underlying t = some (.slice e)) (G : P.info? e = some i) (Q : i.zero = some b) (q : i.size = k) (o : i.bytes = a) (D : b.cells = (enc z).toArray) (M : kp E x = .int j n) (O : kp E y = .int j n) (c : An a z n = some r) (h : ∀ W' s R', ST dd F w W' μ (R' ++ L) → kC e enc k s r R' → K s W') : nu P E ⟨d, .makeSlice t x y, ty, pos, af, g⟩ W K := by
 unfold An at c
 split at c
 case isFalse => cases c
 rename_i m
 cases c
 obtain ⟨u, h1, v⟩ := m
 subst q; subst o
 have A : n.toNat ≤ maxLen := by omega
 have I := run_make (P := P) W t e i b J G Q j j n n u (Int.le_refl _) (by omega) (by simp only [maxLen] at v; omega)
 refine .inl ⟨.slice (some ⟨W.heap.size, 0, none⟩) n.toNat n.toNat, W.alloc (.cells (madeCells b.cells (n.toNat * i.size)) e), ?_, h _ _ [(W.heap.size, .cells (madeCells b.cells (n.toNat * i.size)) e)] (l.alloc _) ?_⟩
 ·show (do pure (.value (← Instr.makeSlice t (kp E x) (kp E y))) : Sem Next).run P W = _
  rw [M, O]
  simp only [cI, I, bQ, dt]
 ·exact kC.lit (by rw [ig]) A (by rw [D]; exact H0 hk p z _) (by rw [size_madeCells])
end
section
variable {P : Program} {E : Nat → Value} {W : World} {d : Option Nat} {ty : TypeId} {pos : String} {af : Array Edge} {g : Option (Nat × Bool)}
theorem PA {c j : TypeId} {x y : Operand} {k k' : IntKind} {a b : Int} (h : kp E x = .int k a) (i : kp E y = .int k' b) (l : 0 ≤ b) :
  mx P E ⟨d, .binOp .shl c x y j, ty, pos, af, g⟩ W (.int k (k.wrap (a * 2 ^ min b.toNat k.bits))) W := by
 show (do let r ← (do eqGuard .shl c x y (kp E x) (kp E y); binOp .shl c (kp E x) (kp E y)); pure (.value r) : Sem Next).run P W = _
 rw [h, i]
 simp [eqGuard, binOp, Op.shift, show ¬ b < 0 by omega]
end
theorem rT.AP {κ γ : Type} {kenc : κ → Value} {Q : Value → γ → List (Nat × Obj) → Prop} {μ : kL} {v : Value} {l : List (κ × γ)} (h : rT kenc Q μ v l) : v.oneCell' = true := by
 obtain ⟨a, R, h, _⟩ := h
 obtain ⟨m, rfl⟩ := h.form
 rfl
theorem vi.AP {κ β : Type} {kenc : κ → Value} {vf : β → Value} {μ : kL} {v : Value} {l : List (κ × β)} (h : vi kenc vf μ v l) : v.oneCell' = true := by
 obtain ⟨m, rfl⟩ := h.form
 rfl
section
variable {dd : Bool}
def BG {α : Type} (R : pW α) : kL → List Value → α → Prop := fun μ vs x => ∃ ys, vs = [.agg ys.toArray] ∧ R μ ys x
def vX {α β : Type} (R : pW α) (S : pW β) : kL → List Value → α × β → Prop := fun μ vs x => ∃ ys zs, vs = [.agg ys.toArray, .agg zs.toArray] ∧ R μ ys x.1 ∧ S μ zs x.2
theorem BG.mk {α : Type} {R : pW α} {k : Nat} {μ μ' : kL} {ys : List Value} {x : α} (a : Deep R k) (h : R μ ys x) (b : kH μ μ') : BG R μ' [.agg ys.toArray] x := ⟨ys, rfl, a.mono _ _ _ _ b h⟩
theorem vX.mk {α β : Type} {R : pW α} {S : pW β} {k m : Nat} {μ μ' : kL} {ys zs : List Value} {x : α} {y : β} (c : Deep R k) (d : Deep S m) (h : R μ ys x) (b : S μ zs y) (a : kH μ μ') : vX R S μ' [.agg ys.toArray, .agg zs.toArray] (x, y) :=
 ⟨ys, zs, rfl, c.mono _ _ _ _ a h, d.mono _ _ _ _ a b⟩
def xX {α β : Type} (P : Program) (fv : Value) (μ : kL) (a : kL → List Value → α → Prop) (b : β → Value) (pm : α → Option β) : Prop :=
 ∃ f first caps, fv = .func (.func f) first caps ∧ (∀ args w, (callFunc f args).run P w = .ok (.enter f args) w) ∧ ∀ W x vs r, kH μ (hp W) → a (hp W) vs x → pm x = some r → kN false P f (first.toList ++ (vs ++ caps.toList)) W (b r)
theorem xX.form {α β : Type} {P : Program} {fv : Value} {μ : kL} {c : kL → List Value → α → Prop} {d : β → Value} {pm : α → Option β} (h : xX P fv μ c d pm) : ∃ f a b, fv = .func f a b := let ⟨f, a, b, h, _⟩ := h; ⟨_, a, b, h⟩
end
section
variable {P : Program} {W : World} {E : Nat → Value} {d : Option Nat} {ty : TypeId} {pos : String} {af : Array Edge} {g : Option (Nat × Bool)} {F : Nat → Prop} {w : World} {μ μ0 : kL} {L : List (Nat × Obj)}
theorem xX.mono {α β : Type} {fv : Value} {a : kL → List Value → α → Prop} {b : β → Value} {pm : α → Option β} (h : xX P fv μ a b pm) (g : kH μ μ0) : xX P fv μ0 a b pm := by
 obtain ⟨f, first, caps, h1, c, d⟩ := h
 exact ⟨f, first, caps, h1, c, fun W x vs r h => d W x vs r (g.trans h)⟩
theorem zd {α β : Type} {K : Value → World → Prop} {fv : Value} {i : kL → List Value → α → Prop} {j : β → Value} {pm : α → Option β} {b : Operand} {ax : Array Operand} {ats : Array TypeId} (x : α) {vs : List Value} {r : β} (a : ST false F w W μ L) (p : xX P fv μ0 i j pm) (s : kH μ0 μ) (o : i (hp W) vs x) (q : kp E b = fv) (ha : ax.map (kp E) ++ (#[] : Array Value) = vs.toArray) (hm : pm x = some r) (h : ∀ W', ST false F w W' μ L → K (j r) W') : nu P E ⟨d, .call ⟨.value b, ax, ats⟩, ty, pos, af, g⟩ W K := by
 obtain ⟨f, first, caps, rfl, k, l⟩ := p
 have c : ax.map (kp E) = vs.toArray := by simpa using ha
 refine .inr (.inr ⟨f, (first.toList ++ (vs ++ caps.toList)).toArray, ?_, cZ (l W x vs r (s.trans a.kw) o hm) (fun _ _ ⟨m, n⟩ => ⟨_, m, h _ (a.Fg n)⟩)⟩)
 show (do let d ← resolve (kp E) ⟨.value b, ax, ats⟩ ty; invoke d.target d.args : Sem Next).run P W = _
 simp only [resolve, q, Deferred.ofValue, cI, dt, bQ, invoke, c, k]
 congr 2
 simp
end
section
variable {dd : Bool}
variable {β : Type} {Rl : pW β} {k : Nat} {μ : kL} {v : Value} {l : List β} {e : TypeId} {B : List (Nat × Obj)}
variable {F : Nat → Prop} {w W : World} {L : List (Nat × Obj)}
variable {P : Program} {E : Nat → Value} {d : Option Nat} {ty : TypeId} {pos : String} {af : Array Edge} {g : Option (Nat × Bool)}
theorem JC {α : Type} {enc : α → List Value} (hk : ∀ x, (enc x).length = k) (c : 0 < k) (d : ∀ x y, enc x = enc y → x = y) : ∀ {l m : List α}, (l.map enc).flatten = (m.map enc).flatten → l = m
 | [], [], _ => rfl
 | [], b :: m, h => by
  have := aR List.length h
  simp only [ev, dw, bP, bH, bM, aC, hk] at this
  omega
 | a :: l, [], h => by
  have := aR List.length h
  simp only [ev, dw, bP, bH, bM, aC, hk] at this
  omega
 | a :: l, b :: m, h => by
  simp only [bH, bM] at h
  obtain ⟨h1, g⟩ := List.append_inj h (by rw [hk, hk])
  rw [d _ _ h1, JC hk c d g]
theorem TH (x y : sC k) (h : uW x = uW y) : x = y := Subtype.ext h
theorem kC.pre {v1 : Value} {cl a : List (sC k)} (d : 0 < k) (h : kC e uW k v cl B) (h1 : kC e uW k v1 a B) (c : a.length ≤ cl.length) : a = cl.take a.length := by
 rcases h with ⟨rfl, rfl, rfl⟩ | ⟨p, cap, b, rfl, rfl, q, r, s, n⟩
 ·simp at c; simp [c]
 ·rcases h1 with ⟨_, _, h⟩ | ⟨g1, g, i, rfl, j, o, a2, a3, a4⟩
  ·cases h
  ·cases j
   refine JC zA d TH ?_
   rw [← a4]
   have hle : a.length * k ≤ cl.length * k := bZ _ c
   have : b.toList.take (a.length * k) = (b.toList.take (cl.length * k)).take (a.length * k) := by rw [fJ, dq hle]
   rw [this, n]
   have l : (cl.map uW).flatten = ((cl.take a.length).map uW).flatten ++ ((cl.drop a.length).map uW).flatten := by rw [← cQ, ← cC, eX]
   have m : ((cl.take a.length).map uW).flatten.length = a.length * k := by rw [pj zA, cP, dq c]
   rw [l, ← m, gK]
theorem pn.replicate {α β : Type} {Q : α → β → Prop} {a : α} {b : β} (h : Q a b) : ∀ n, pn Q (List.replicate n a) (List.replicate n b)
 | 0 => .nil
 | n + 1 => .cons h (pn.replicate h n)
theorem pn.TG {α β : Type} {Q : α → β → Prop} {l : List α} {m : List β} (h : pn Q l m) {a : α} {b : β} (c : Q a b) (i : Nat) : pn Q (nD l i a) (nD m i b) := by
 unfold nD
 rw [h.length]
 exact (h.take i).append (pn.replicate c _)
theorem GW {t e' : TypeId} {x ih : Operand} {r : IntKind} {i : Int} (p : P.underlying t = some (.slice e')) (he : ∀ w, (sizeOf e').run P w = .ok k w) (q : kp E x = v) (n : kp E ih = .int r i) (h : lC e Rl k μ v l B) (c : 0 ≤ i) (o : i ≤ l.length) :
  ∃ a, lC e Rl k μ a (l.take i.toNat) B ∧ ∀ W, mx P E ⟨d, .slice t x none (some ih) none, ty, pos, af, g⟩ W a W := by
 obtain ⟨cl, h1, b⟩ := h
 obtain ⟨a, j, m⟩ := tO (d := d) (ty := ty) (pos := pos) (af := af) (g := g) p he q n h1 zA c (by rw [b.length]; exact o)
 exact ⟨a, ⟨_, j, b.take _⟩, m⟩
theorem Bk {t e' : TypeId} {x a : Operand} {p : IntKind} {i : Int} (n : P.underlying t = some (.slice e')) (he : ∀ w, (sizeOf e').run P w = .ok k w) (o : kp E x = v) (j : kp E a = .int p i) (h : lC e Rl k μ v l B) (b : 0 ≤ i) (m : i ≤ l.length) :
  ∃ u, yt k v i.toNat u ∧ ∀ W, mx P E ⟨d, .slice t x (some a) none none, ty, pos, af, g⟩ W u W := by
 obtain ⟨cl, h1, c⟩ := h
 exact rc n he o j h1 b (by rw [c.length]; exact m)
theorem Md {t e' : TypeId} {x : Operand} {u : Value} {i : Nat} (b : P.underlying t = some (.slice e')) (c : kp E x = u) (hu : yt k v i u) (h : lC e Rl k μ v l B) : mx P E ⟨d, .call ⟨.builtin .len, #[x], #[t]⟩, ty, pos, af, g⟩ W (.int .i64 ((l.length - i : Nat) : Int)) W := by
 obtain ⟨cl, h1, a⟩ := h
 rw [← a.length]
 exact BS b c hu h1
theorem Bw {t e' : TypeId} {x j : Operand} {G : IntKind} {i : Int} {x0 : β} {u : Value} {o : Nat} {A : List Value → Prop} (y : ∀ {ys}, Rl μ ys x0 → A ys) (D : P.underlying t = some (.slice e')) (he : ∀ w, (sizeOf e').run P w = .ok k w) (F : kp E x = u) (r : kp E j = .int G i) (h : lC e Rl k μ v l B) (hu : yt k v o u) (m : 0 ≤ i) (s : (l.drop o)[i.toNat]? = some x0) :
  ∃ p, (∃ ys, A ys ∧ At (zJ B) p ys ∧ AE B k p (o + i.toNat)) ∧ ∀ W, mx P E ⟨d, .indexAddr t x j, ty, pos, af, g⟩ W p W := by
 obtain ⟨cl, h1, n⟩ := h
 obtain ⟨c, b, z⟩ := (n.drop o).get s
 obtain ⟨p, a, q⟩ := rf (d := d) (ty := ty) (pos := pos) (af := af) (g := g) D he F r h1 hu m b
 exact ⟨p, ⟨c.1, y z, a.at h1 zA (uv b), a⟩, q⟩
theorem Em {K : Value → World → Prop} {z : β} {zs : List Value} {Y : List (Nat × Obj)} {t e' : TypeId} {x : Operand} {u c : Value} {i : Nat} (n : Deep Rl k) (b : ST dd F w W μ (B ++ Y)) (h : lC e Rl k μ v l B) (a : Rl μ zs z) (q : P.underlying t = some (.slice e')) (s : ∀ w, (zeroValue e').run P w = .ok c w) (hu : yt k v i u) (p : c.cells = zs.toArray) (r : kp E x = u) (o : ∀ W' R', ST dd F w W' μ (R' ++ Y) → lC e Rl k μ v (nD l i z) R' → K (.tuple #[]) W') : nu P E ⟨d, .call ⟨.builtin .clear, #[x], #[t]⟩, ty, pos, af, g⟩ W K := by
 obtain ⟨cl, h1, m⟩ := h
 exact ve (n.cell a) b h1 zA ON q s hu p r (fun W' R' j a2 => o W' R' j ⟨_, a2, m.TG a i⟩)
theorem lC.Ov {b c : List β} {h : Value} {R2 : List (Nat × Obj)} (a : 0 < k) (i : lC e Rl k μ v l B) (h1 : lC e Rl k μ h c B) (j : lC e Rl k μ v b R2) (m : c.length ≤ b.length) : lC e Rl k μ h (b.take c.length) R2 := by
 obtain ⟨cl, n, q⟩ := i
 obtain ⟨c1, o, d⟩ := h1
 obtain ⟨c2, p, g⟩ := j
 refine ⟨_, kC.Ov a zA n o p (by rw [d.length, g.length]; exact m), ?_⟩
 rw [d.length]
 exact g.take _
end
section
variable {P : Program} {W : World} {E : Nat → Value} {d : Option Nat} {ty : TypeId} {pos : String} {af : Array Edge} {g : Option (Nat × Bool)}
theorem Og {c m : TypeId} {x y : Operand} {fv : Value} {s u : Array TypeId} {bb : Bool} (j : P.underlying c = some (.func s u bb)) (h : ∃ f a b, fv = .func f a b) (k : kp E x = fv) (l : kp E y = .nilFunc) :
  mx P E ⟨d, .binOp .neq c x y m, ty, pos, af, g⟩ W (.bool true) W := by
 obtain ⟨f, a, b, rfl⟩ := h
 show (do let r ← (do eqGuard .neq c x y (kp E x) (kp E y); binOp .neq c (kp E x) (kp E y)); pure (.value r) : Sem Next).run P W = _
 rw [k, l]
 have i := Be 9999 j f a b W
 simp [eqGuard, binOp, Op.equal, show Op.maxDepth = 9999 + 1 from rfl, i]
end
theorem bS {α β : Type} {m : Option α} {f : α → Option β} {r : β} {G : Prop} (h : m.bind f = some r) (k : ∀ x, m = some x → f x = some r → G) : G :=
 let ⟨x, a, b⟩ := bind_some h
 k x a b
theorem sj {α : Type} {a b : α} (h : some a = some b) : a = b := Option.some.inj h
theorem bC {α : Type} {b : Bool} {x y r : α} {G : Prop} (h : (if b = true then x else y) = r) (a : b = true → x = r → G) (k2 : b = false → y = r → G) : G := by
 rcases MR b with e | e
 ·exact a e (RH e h)
 ·exact k2 e (RK e h)
theorem cB {a b : Bool} (h : a = b) : Value.bool a = Value.bool b := aR Value.bool h
theorem nb {a b : Nat} (h : Nat.ble a b = true := by exact rfl) : a ≤ b := Nat.le_of_ble_eq_true h
def Tp : Nat → Nat → List Bool
 | 0, _ => []
 | n + 1, m => (m % 2 == 1) :: Tp n (m / 2)
def bm (n m : Nat) : Array Bool := (Tp n m).toArray
section
variable {P : Program} {n : Nat} {Q : qX} {E : Nat → Value} {W : World}
theorem CI {α : Type} {co : Operand} {b : Bool} {x y : Code} {A B r : α} (hm : (if b = true then A else B) = r) (a : kp E co = .bool b) (d : b = true → A = r → CW P n x Q E W) (c : b = false → B = r → CW P n y Q E W) : CW P n (.cond co x y) Q E W :=
 Mw a (fun e => d e (RH e hm)) (fun e => c e (RK e hm))
theorem CJ {c ρ : Type} {m : Option c} {k : c → Option ρ} {r : ρ} {x : Code} {K : (Nat → Value) → World → Prop} (hm : m.bind k = some r) (I : c → (Nat → Value) → World → Prop) (h1 : ∀ s, m = some s → CW P n x (qW (I s) Q) E W) (d : ∀ s E W, I s E W → k s = some r → K E W) : CW P n x (qW K Q) E W :=
 let ⟨s, a, b⟩ := bind_some hm
 NV (I s) (h1 s a) (fun E W h => d s E W h b)
theorem PQ {d ρ c : Type} {m : Option (c ⊕ d)} {k : c ⊕ d → Option ρ} {r : ρ} {x : Code} {K : (Nat → Value) → World → Prop} (hm : m.bind k = some r) (I : d → (Nat → Value) → World → Prop) (h1 : ∀ s, m = some s → k s = some r → CW P n x (qW (fun E W => ∃ t, s = .inr t ∧ I t E W) Q) E W) (g : ∀ s E W, I s E W → k (.inr s) = some r → K E W) : CW P n x (qW K Q) E W :=
 let ⟨s, a, b⟩ := bind_some hm
 NV (fun E W => ∃ t, s = .inr t ∧ I t E W) (h1 s a b) (fun E W ⟨t, e, h⟩ => g t E W h (by subst e; exact b))
theorem LJ {c ρ : Type} {m : Option c} {k : c → Option ρ} {r : ρ} {ops : Array Oper} {rest : List Oper} (hm : m.bind k = some r) (I : c → (Nat → Value) → World → Prop) (j : Nat) (d : ∀ s E W, I s E W → k s = some r → LW P n ops Q (rest.drop j) E W) (h1 : ∀ s, m = some s → (∀ E W, I s E W → LW P n ops Q (rest.drop j) E W) → LW P n ops Q rest E W) : LW P n ops Q rest E W :=
 let ⟨s, a, b⟩ := bind_some hm
 h1 s a (fun E W h => d s E W h b)
theorem PJ {c ρ : Type} {m : Option c} {k : c → Option ρ} {r : ρ} {ops : Array Oper} {S : Array Bool → World → Prop} {fuel : Nat} {listed : Array Bool} (hm : m.bind k = some r) (I : c → (Nat → Value) → World → Prop) (g : Array Bool) (d : Nat) (i : ∀ s E W, I s E W → k s = some r → PX P n ops Q S d g E W) (h1 : ∀ s, m = some s → (∀ E W, I s E W → PX P n ops Q S d g E W) → PX P n ops Q S fuel listed E W) : PX P n ops Q S fuel listed E W :=
 let ⟨s, a, b⟩ := bind_some hm
 h1 s a (fun E W h => i s E W h b)
end
section
variable {dd : Bool} {P : Program} {fn : Func} {E : Nat → Value} {W w : World} {μ : kL} {L : List (Nat × Obj)}
theorem rP {t : Tmp} {v : Value} (a : ST dd lM w W μ L) (b : fn.results = #[.tmp t] := by exact rfl) (c : E t = v := by exact rfl) : yC P fn (fun e W' => e = .returned v ∧ Ex dd w W') .ret E W := lB b c ⟨rfl, a.ex⟩
end
theorem ST.J2 {dd : Bool} {F : Nat → Prop} {w W : World} {μ : kL} {x : Nat × Obj} {L : List (Nat × Obj)} (h : ST dd F w W μ (x :: L)) : ST dd F w W μ ([x] ++ L) := h
theorem ST.HU {dd : Bool} {F : Nat → Prop} {w W : World} {μ : kL} {L : List (Nat × Obj)} (h : ST dd F w W μ L) : ST dd F w W μ ([] ++ L) := h
theorem aL {E : Nat → Value} {ax : Array Operand} {l : List Value} (h : ax.toList.map (kp E) = l) : ax.map (kp E) ++ (#[] : Array Value) = l.toArray := by subst h; apply Array.ext'; simp
section
variable {dd : Bool}
variable {P : Program} {E : Nat → Value} {W : World} {d : Option Nat} {ty : TypeId} {pos : String} {af : Array Edge} {g : Option (Nat × Bool)}
 {F : Nat → Prop} {w : World} {μ : kL} {L : List (Nat × Obj)}
variable {f : FuncId} {fv : Operand} {ax : Array Operand} {ats : Array TypeId} {args : List Value} {v : Value} {K : Value → World → Prop}
theorem Eg (a : ST dd F w W μ L) (he : ∀ args w, (callFunc f args).run P w = .ok (.enter f args) w) (b : kN dd P f args W v) (h : ∀ W', ST dd F w W' μ L → K v W') (c : kp E fv = .func (.func f) #[] #[] := by exact rfl) (ha : ax.toList.map (kp E) = args := by exact rfl) : nu P E ⟨d, .call ⟨.value fv, ax, ats⟩, ty, pos, af, g⟩ W K := Lp a c he (aL ha) b h
theorem rW {α : Type} {e : TypeId} {enc : α → List Value} {k : Nat} {l : List α} {Y : List (Nat × Obj)} (a : ST dd F w W μ Y) (he : ∀ args w, (callFunc f args).run P w = .ok (.enter f args) w) (b : ma dd P f args W e enc k l) (h : ∀ W' v μ' R, ST dd F w W' μ' (R ++ Y) → kH μ μ' → Lo F w μ μ' → kC e enc k v l R → K v W') (c : kp E fv = .func (.func f) #[] #[] := by exact rfl) (ha : ax.toList.map (kp E) = args := by exact rfl) : nu P E ⟨d, .call ⟨.value fv, ax, ats⟩, ty, pos, af, g⟩ W K := LV _ a c he (aL ha) b h
theorem B6 {K' : Value → List (Nat × Obj) → World → Prop} {L0 L2 : List (Nat × Obj)} (i : ST dd F w W μ L) (j : L.Perm (L0 ++ L2)) (he : ∀ args w, (callFunc f args).run P w = .ok (.enter f args) w) (k : DH L0 W → (L0.map (·.1)).Nodup → kH μ (uz W L0) → (∀ b o, (b, o) ∈ L2 → uz W L0 b = some o) → lH dd P f args W L0 K') (h : ∀ W' v μ' L1, ST dd F w W' μ' (L1 ++ L2) → kH μ μ' → Lo F w μ μ' → (∀ b, W.heap.size ≤ b → ∀ o, uz W' L1 b = some o → μ' b = some o) → K' v L1 W' → K v W') (l : kp E fv = .func (.func f) #[] #[] := by exact rfl) (ha : ax.toList.map (kp E) = args := by exact rfl) : nu P E ⟨d, .call ⟨.value fv, ax, ats⟩, ty, pos, af, g⟩ W K :=
 Qt L0 L2 i j l he (aL ha) (fun a b c d => by have := k a b c d; simpa using this) h
theorem Hh {K' : Value → List (Nat × Obj) → kL → Prop} {L0 L2 : List (Nat × Obj)} (i : ST dd F w W μ L) (j : L.Perm (L0 ++ L2)) (he : ∀ args w, (callFunc f args).run P w = .ok (.enter f args) w) (k : DH L0 W → (L0.map (·.1)).Nodup → kH μ (uz W L0) → (∀ b o, (b, o) ∈ L2 → uz W L0 b = some o) → mj dd P f args W μ L0 K') (h : ∀ W' v μ' L1, ST dd F w W' μ' (L1 ++ L2) → kH μ μ' → Lo F w μ μ' → K' v L1 μ' → K v W') (l : kp E fv = .func (.func f) #[] #[] := by exact rfl) (ha : ax.toList.map (kp E) = args := by exact rfl) : nu P E ⟨d, .call ⟨.value fv, ax, ats⟩, ty, pos, af, g⟩ W K :=
 Gu L0 L2 i j l he (aL ha) (fun a b c d => by have := k a b c d; simpa using this) h
end
section
variable {E : Nat → Value} {x1 x2 x3 x4 x5 x6 x7 x8 : Operand} {v1 v2 v3 v4 v5 v6 v7 v8 : Value}
theorem Sk (h1 : kp E x1 = v1) : [x1].map (kp E) = [v1] := by rw [← h1]; rfl
end
def TY (R : List (Nat × Obj)) (k : Nat) (p : Value) (i a : Nat) : Prop := ∃ g o, R = [(g, o)] ∧ p = .pointer (some ⟨g, i * k + a, none⟩)
theorem AE.f {R : List (Nat × Obj)} {k : Nat} {p : Value} {i : Nat} (h : AE R k p i) : TY R k p i 0 := h
section
variable {P : Program} {E : Nat → Value} {W : World} {d : Option Nat} {ty : TypeId} {pos : String} {af : Array Edge} {g : Option (Nat × Bool)}
 {dd : Bool} {F : Nat → Prop} {w : World} {μ : kL} {L : List (Nat × Obj)} {α : Type} {e' : TypeId} {enc : α → List Value} {k : Nat} {v : Value} {l : List α} {R : List (Nat × Obj)}
theorem kC.put (h : kC e' enc k v l R) (hk : ∀ x, (enc x).length = k) {p : Value} {i : Nat} (hp : AE R k p i) {x0 : α} (r : l[i]? = some x0) (x1 : α) :
  ∃ g a, R = [(g, .cells a e' (0, 0))] ∧ p = .pointer (some ⟨g, i * k, none⟩) ∧ i * k + k ≤ a.size ∧ (∀ j y, (enc x0)[j]? = some y → a[i * k + j]? = some y) ∧
   kC e' enc k v (l.set i x1) [(g, .cells (a.toList.take (i * k) ++ enc x1 ++ a.toList.drop (i * k + k)).toArray e' (0, 0))] := by
 have m : i < l.length := (bF.1 r).1
 obtain ⟨o, a, cap, rfl, rfl, q, u, d, w, rfl, z⟩ := Bc h hk hp r
 have hle : i * k + k ≤ cap * k := by
  have : (i + 1) * k ≤ cap * k := bZ _ (by omega)
  rwa [cL, jS] at this
 have b : i * k + k ≤ l.length * k := by
  have : (i + 1) * k ≤ l.length * k := bZ _ (by omega)
  rwa [cL, jS] at this
 have hlen : l.length * k ≤ cap * k := bZ _ q
 refine ⟨o, a, rfl, rfl, by rw [d]; exact hle, z, .inr ⟨o, cap, _, by simp, rfl, by simpa using q, u, ?_, ?_⟩⟩
 ·show ((a.toList.take (i * k) ++ (enc x1) ++ a.toList.drop (i * k + k)).toArray).size = _
  have c : a.toList.length = cap * k := by simpa using d
  rw [dp, aC, aC, cP, dT, hk, c, dq (by omega)]; omega
 ·rw [iH, F0 hk l i x1 m, ← w]
  have s : (a.toList.take (l.length * k)).take (i * k) = a.toList.take (i * k) := by rw [fJ]; congr 1; omega
  have t : (a.toList.take (l.length * k)).drop (i * k + k) = (a.toList.drop (i * k + k)).take (l.length * k - (i * k + k)) := by rw [gG]
  rw [s, t]
  show List.take (l.length * k) (a.toList.take (i * k) ++ enc x1 ++ a.toList.drop (i * k + k)) = _
  have c : a.toList.length = cap * k := by simpa using d
  have n : (a.toList.take (i * k) ++ enc x1).length = i * k + k := by rw [aC, cP, hk, c, dq (by omega)]
  rw [eO, dx (by rw [n]; exact b), n]
end
theorem oc {v : Value} (h : v.cells.toList.all Value.oneCell' = true := by exact rfl) : ∀ u ∈ v.cells.toList, u.oneCell' = true := List.all_eq_true.1 h
theorem dc {p : Prop} [Decidable p] (h : p := by decide) : p := h
theorem kr {p : Prop} (h : p := by kernel_rfl) : p := h
theorem br {α : Sort _} {a b : α} (h : a = b := by rfl) : a = b := h
abbrev LO := List (Nat × Obj)
abbrev Ob (c : Array Value) (t : TypeId) : Obj := .cells c t (0, 0)
abbrev Ol (c : List Value) (t : TypeId) : Obj := .cells c.toArray t (0, 0)
theorem nc {P : Program} {t e : TypeId} {m k : Nat} {z : Value} {a : Array (Nat × Value)} {cs : Array Value} (i : P.underlying t = some (.slice e)) (g : ∀ w, (sizeOf e).run P w = .ok k w) (l : ∀ w, (zeroValue e).run P w = .ok z w) (hm : m * k ≤ 16777216 := by decide) (d : a.toList = (a.toList.map (·.2)).zipIdx.map (fun p => (p.2, p.1)) := by exact rfl) (j : (a.toList.map (·.2)).all (fun v => v.cells.size == k) = true := by exact rfl) (c : (a.toList.map (·.2)).length = m := by exact rfl) (b : ((a.toList.map (·.2)).flatMap (fun v => v.cells.toList)).toArray = cs := by exact rfl) (W : World) :
  (Instr.buildSlice t m a).run P W = .ok (.slice (some ⟨W.heap.size, 0, none⟩) m m) (W.alloc (.cells cs e (0, 0))) :=
 zU _ i g l hm d (fun v h => eq_of_beq (List.all_eq_true.1 j v h)) c b W
section
variable {dd : Bool} {P : Program} {fn : Func} {E : Nat → Value} {W w : World} {μ : kL} {L L0 : List (Nat × Obj)}
theorem rQ {α : Type} {f : α → Value} {a r : α} {t : Tmp} (hm : some a = some r) (b : ST dd lM w W μ L) (c : fn.results = #[.tmp t] := by exact rfl) (d : E t = f a := by exact rfl) : yC P fn (fun e W' => e = .returned (f r) ∧ Ex dd w W') .ret E W := by
 obtain rfl := sj hm; exact lB c d ⟨rfl, b.ex⟩
theorem cG (n : Nat) {f : FuncId} {c : Code} {args : List Value} {v : Value} (a : P.funcs[f]? = some fn) (b : fn.body = some c) (h : ST dd lM w w (hp w) [] → CW P n c (yC P fn (fun e i => e = .returned v ∧ Ex dd w i)) (Dq args) w) (g : fn.ntmps = n := by exact rfl) (d : args.length ≤ n := by exact nb) : kN dd P f args w v := Aa a b g d (h (ST.start w))
theorem uk {K : Value → List (Nat × Obj) → World → Prop} (n : Nat) {f : FuncId} {c : Code} {args : List Value} (a : P.funcs[f]? = some fn) (d : fn.body = some c) (h : ST dd lM w w (hp w) [] → CW P n c (yC P fn (fun e b => ∃ v L1, e = .returned v ∧ uG dd [] L1 w b ∧ K v L1 b)) (Dq args) w) (i : fn.ntmps = n := by exact rfl) (g : args.length ≤ n := by exact nb) : lH dd P f args w [] K := Aa a d i g (h (ST.start w))
theorem yN {K : Value → List (Nat × Obj) → World → Prop} (d : nN μ L0 w) (n : Nat) {f : FuncId} {c : Code} {args : List Value} (a : P.funcs[f]? = some fn) (g : fn.body = some c) (h : ST dd (keys L0) w w μ L0 → CW P n c (yC P fn (fun e b => ∃ v L1, e = .returned v ∧ uG dd L0 L1 w b ∧ K v L1 b)) (Dq args) w) (j : fn.ntmps = n := by exact rfl) (i : args.length ≤ n := by exact nb) : lH dd P f args w L0 K := Aa a g j i (h (ST.N6 d))
theorem vt {K : Value → List (Nat × Obj) → kL → Prop} (d : nN μ L0 w) (n : Nat) {f : FuncId} {c : Code} {args : List Value} (a : P.funcs[f]? = some fn) (g : fn.body = some c) (h : ST dd (keys L0) w w μ L0 → CW P n c (yC P fn (fun e b => ∃ v L1 μ1, e = .returned v ∧ uG dd L0 L1 w b ∧ kH μ μ1 ∧ Lo (keys L0) w μ μ1 ∧ kH μ1 (uz b L1) ∧ K v L1 μ1)) (Dq args) w) (j : fn.ntmps = n := by exact rfl) (i : args.length ≤ n := by exact nb) : mj dd P f args w μ L0 K := Aa a g j i (h (ST.N6 d))
end
section
variable {dd : Bool}
variable {P : Program} {E : Nat → Value} {W : World} {d : Option Nat} {ty : TypeId} {pos : String} {af : Array Edge} {g : Option (Nat × Bool)}
 {F : Nat → Prop} {w : World} {μ : kL} {L : List (Nat × Obj)}
variable {f : FuncId} {fv : Operand} {ax : Array Operand} {ats : Array TypeId} {args : List Value} {v : Value} {K : Value → World → Prop}
theorem eM {K' : Value → List (Nat × Obj) → World → Prop} {L0 L2 : List (Nat × Obj)} (i : ST dd F w W μ L) (j : L.Perm (L0 ++ L2)) (he : ∀ args w, (callFunc f args).run P w = .ok (.enter f args) w) (k : nN (uz W L0) L0 W → kH μ (uz W L0) → lH dd P f args W L0 K') (h : ∀ W' v μ' L1, ST dd F w W' μ' (L1 ++ L2) → kH μ μ' → Lo F w μ μ' → (∀ b, W.heap.size ≤ b → ∀ o, uz W' L1 b = some o → μ' b = some o) → K' v L1 W' → K v W') (l : kp E fv = .func (.func f) #[] #[] := by exact rfl) (ha : ax.toList.map (kp E) = args := by exact rfl) : nu P E ⟨d, .call ⟨.value fv, ax, ats⟩, ty, pos, af, g⟩ W K :=
 B6 i j he (fun a b c _ => k ⟨a, b, kH.refl _⟩ c) h l ha
theorem eD {K' : Value → List (Nat × Obj) → kL → Prop} {L0 L2 : List (Nat × Obj)} (i : ST dd F w W μ L) (j : L.Perm (L0 ++ L2)) (he : ∀ args w, (callFunc f args).run P w = .ok (.enter f args) w) (k : nN μ L0 W → mj dd P f args W μ L0 K') (h : ∀ W' v μ' L1, ST dd F w W' μ' (L1 ++ L2) → kH μ μ' → Lo F w μ μ' → K' v L1 μ' → K v W') (l : kp E fv = .func (.func f) #[] #[] := by exact rfl) (ha : ax.toList.map (kp E) = args := by exact rfl) : nu P E ⟨d, .call ⟨.value fv, ax, ats⟩, ty, pos, af, g⟩ W K :=
 Hh i j he (fun a b c _ => k ⟨a, b, c⟩) h l ha
end
def NF (op : BinOp) : Value → Value → Option Value
 | .int k a, .int k' b => if k = k' then I1 k op a b else none
 | _, _ => none
def RI (i : Nat) : Value → Option Value
 | .tuple vs => vs[i]?
 | _ => none
def I9 : Value → Bool
 | .pointer (some ⟨_, _, none⟩) => true
 | _ => false
def Ry (o : Nat) : Value → Value
 | .pointer (some ⟨b, k, none⟩) => .pointer (some ⟨b, k + o, none⟩)
 | v => v
theorem Im {v : Value} (h : I9 v = true) : ∃ b k, v = .pointer (some ⟨b, k, none⟩) := by
 unfold I9 at h; split at h
 ·exact ⟨_, _, rfl⟩
 ·cases h
section
variable {P : Program} {n : Nat} {Q : qX} {E : Nat → Value} {W : World} {ops : Array Oper} {rest : List Oper}
 {d j t : Nat} {want b : Bool} {v : Value} {ins : Go.Op} {ty : TypeId} {pos : String} {af : Array Edge} {A : Value → Prop} {x y : Operand}
theorem Wm (h : LW P n ops Q rest (oM E d (kp E x)) W) (a : d < n := by decide) : LW P n ops Q (⟨some d, .move x, ty, pos, af, none⟩ :: rest) E W := V (ko rfl) h a
theorem Wa (h : LW P n ops Q rest (oM E d (kp E x)) W) (a : d < n := by decide) : LW P n ops Q (⟨some d, .assign x, ty, pos, af, none⟩ :: rest) E W := V (ol rfl) h a
theorem Wh (b : kp E x = v) (h : LW P n ops Q rest (oM E d v) W) (a : d < n := by decide) : LW P n ops Q (⟨some d, .move x, ty, pos, af, none⟩ :: rest) E W := V (ko b) h a
theorem Wg (b : kp E x = v) (h : LW P n ops Q rest (oM E d v) W) (a : d < n := by decide) : LW P n ops Q (⟨some d, .assign x, ty, pos, af, none⟩ :: rest) E W := V (ol b) h a
theorem Wx {i : Nat} (a : RI i (kp E x) = some v) (h : LW P n ops Q rest (oM E d v) W) (b : d < n := by decide) : LW P n ops Q (⟨some d, .extract x i, ty, pos, af, none⟩ :: rest) E W := by
 unfold RI at a; split at a
 ·rename_i vs e; exact V (Al e a) h b
 ·cases a
theorem Wi {op : BinOp} {m l : TypeId} (c : NF op (kp E x) (kp E y) = some v) (h : LW P n ops Q rest (oM E d v) W) (j : d < n := by decide) : LW P n ops Q (⟨some d, .binOp op m x y l, ty, pos, af, none⟩ :: rest) E W := by
 unfold NF at c; split at c
 ·rename_i k a k' b g i
  split at c
  ·rename_i e; subst e; exact V (lW g i c) h j
  ·cases c
 ·cases c
theorem Wf {t : TypeId} {f off : Nat} (a : mH P t f off) (h : LW P n ops Q rest (oM E d (Ry off (kp E x))) W) (hp : I9 (kp E x) = true := by exact rfl) (c : d < n := by decide) : LW P n ops Q (⟨some d, .fieldAddr t x f, ty, pos, af, none⟩ :: rest) E W := by
 obtain ⟨b, k, e⟩ := Im hp
 refine V (ky a e) ?_ c
 rw [e] at h; exact h
theorem Wn (h : LW P n ops Q rest (oM E d (kp E x)) W) (hp : I9 (kp E x) = true := by exact rfl) (a : d < n := by decide) : LW P n ops Q (⟨some d, .nilCheck x, ty, pos, af, none⟩ :: rest) E W := by
 obtain ⟨b, k, e⟩ := Im hp
 refine V (nx e) ?_ a
 rw [e] at h; exact h
theorem un (h : b = !want) (k : LW P n ops Q rest (oM E d undef) W) (c : (ops[j]?).bind (·.dst) = some t := by exact rfl) (a : E t = .bool b := by exact rfl) (i : t < n := by decide) (g : d < n := by decide) :
  LW P n ops Q (⟨some d, ins, ty, pos, af, some (j, want)⟩ :: rest) E W := Vn c (by rw [a, h]) k i g
theorem ug (h : b = want) (i : mx P E ⟨some d, ins, ty, pos, af, some (j, want)⟩ W v W) (k : LW P n ops Q rest (oM E d v) W) (c : (ops[j]?).bind (·.dst) = some t := by exact rfl) (a : E t = .bool b := by exact rfl) (l : t < n := by decide) (g : d < n := by decide) :
  LW P n ops Q (⟨some d, ins, ty, pos, af, some (j, want)⟩ :: rest) E W := Vg c (by rw [a, h]) i k l g
theorem vn (h : b = want) (k : nu P E ⟨some d, ins, ty, pos, af, some (j, want)⟩ W fun v W' => LW P n ops Q rest (oM E d v) W') (c : (ops[j]?).bind (·.dst) = some t := by exact rfl) (a : E t = .bool b := by exact rfl) (i : t < n := by decide) (g : d < n := by decide) :
  LW P n ops Q (⟨some d, ins, ty, pos, af, some (j, want)⟩ :: rest) E W := N3 c (by rw [a, h]) k i g
theorem Tk (h : b = want) (i : ∃ p, A p ∧ ∀ W, mx P E ⟨some d, ins, ty, pos, af, some (j, want)⟩ W p W) (k : ∀ p, A p → LW P n ops Q rest (oM E d p) W) (c : (ops[j]?).bind (·.dst) = some t := by exact rfl) (a : E t = .bool b := by exact rfl) (l : t < n := by decide) (g : d < n := by decide) :
  LW P n ops Q (⟨some d, ins, ty, pos, af, some (j, want)⟩ :: rest) E W := TZ c (by rw [a, h]) i k l g
section
variable {dd : Bool} {F : Nat → Prop} {w : World} {μ : kL} {L : List (Nat × Obj)} {T : TypeId} {a off : Nat} {cs : Array Value} {fr : Nat × Nat}
theorem VA {t : TypeId} (b : ST dd F w W μ L) (g : (a, Obj.cells cs T fr) ∈ L) (ys : List Value) (c : ∀ w, (isAgg t).run P w = .ok true w) (i : ∀ w, (sizeOf t).run P w = .ok ys.length w) (h : LW P n ops Q rest (oM E d (.agg ys.toArray)) W) (k : kp E x = .pointer (some ⟨a, off, none⟩) := by exact rfl) (l : (cs.toList.drop off).take ys.length = ys := by exact rfl) (j : d < n := by decide) : LW P n ops Q (⟨some d, .load t x, ty, pos, af, none⟩ :: rest) E W := V (kl k (kx b.has g ys l c i)) h j
theorem VB {t : TypeId} (b : ST dd F w W μ L) (g : (a, Obj.cells cs T fr) ∈ L) (j : kp E x = .pointer (some ⟨a, off, none⟩)) (k : cs[off]? = some v) (c : ∀ w, (isAgg t).run P w = .ok false w) (h : LW P n ops Q rest (oM E d v) W) (i : d < n := by decide) : LW P n ops Q (⟨some d, .load t x, ty, pos, af, none⟩ :: rest) E W := V (kl j (kK b.has g k c)) h i
end
section
variable {K : (Nat → Value) → World → Prop} {Q' : qX} {c : Code} {id id2 : Nat} {l : List Oper} {z : Code}
theorem sg (h : LW P n l.toArray (qW (fun E W => CW P n c Q E W) Q) l E W) : CW P n (.seq (.region id l.toArray false) c) Q E W := kA (kB h)
theorem ln (h : K E W) : LW P n ops (qW K Q) [] E W := kQ (ku h)
theorem lr (h : LW P n l.toArray (qW (fun E W => CW P n c Q E W) Q) l E W) : LW P n ops (qW (fun E W => CW P n (.seq (.region id l.toArray false) c) Q E W) Q') [] E W := kQ (ku (kA (kB h)))
theorem lS (h : LW P n l.toArray (qW (fun E W => CW P n c (qW (fun E W => CW P n z Q E W) Q) E W) (qW (fun E W => CW P n z Q E W) Q)) l E W) : LW P n ops (qW (fun E W => CW P n (.seq (.seq (.region id l.toArray false) c) z) Q E W) Q') [] E W := kQ (ku (kA (kA (kB h))))
theorem bg (h : LW P n l.toArray (qW (fun E W => CW P n c (xe id2 Q) E W) (xe id2 Q)) l E W) : CW P n (.block id2 (.seq (.region id l.toArray false) c)) Q E W := lR (kA (kB h))
theorem kg (h : LW P n l.toArray (qW (fun E W => CW P n c Q E W) Q) l E W) : CW P n .skip (qW (fun E W => CW P n (.seq (.region id l.toArray false) c) Q E W) Q') E W := lE (ku (kA (kB h)))
theorem kS (h : LW P n l.toArray (qW (fun E W => CW P n c (qW (fun E W => CW P n z Q E W) Q) E W) (qW (fun E W => CW P n z Q E W) Q)) l E W) : CW P n .skip (qW (fun E W => CW P n (.seq (.seq (.region id l.toArray false) c) z) Q E W) Q') E W := lE (ku (kA (kA (kB h))))
theorem lt (h : Q .ret E W) : LW P n ops (qW (fun E W => CW P n .ret Q E W) Q') [] E W := kQ (ku (kM h))
theorem kn (h : K E W) : CW P n .skip (qW K Q) E W := lE (ku h)
end
end
theorem ST.Sz {α : Type} {dd : Bool} {F : Nat → Prop} {w W : World} {μ : kL} {R Y : List (Nat × Obj)} {e' : TypeId} {enc : α → List Value} {k : Nat} {v : Value} {l : List α} (d : ST dd F w W μ (R ++ Y)) (h : pT e' enc k v l R) (hk : ∀ x, (enc x).length = k) : ∃ μ', ST dd F w W μ' Y ∧ kH μ μ' ∧ Lo F w μ μ' ∧ Sl (Pl enc) k μ' v l := by
 obtain ⟨μ', g, a2, a3, a4⟩ := ST.xU d
 refine ⟨μ', g, a2, a3, (h.B5 hk).mono (Pl.mono _) (fun b o a => ?_)⟩
 unfold zJ at a
 cases c : List.find? (fun p => p.1 == b) R with
 | none => rw [c] at a; cases a
 | some q =>
  rw [c] at a
  have h1 := fT c
  have i := jR c
  obtain rfl : q.2 = o := by simpa using a
  obtain rfl : q.1 = b := by simpa using i
  exact a4 _ _ h1
section
variable {P : Program} {E : Nat → Value} {W : World} {d : Option Nat} {ty : TypeId} {pos : String} {af : Array Edge} {g : Option (Nat × Bool)}
theorem RC {c j : TypeId} {x y : Operand} {k : IntKind} {a b : Int} (h : kp E x = .int k a) (i : kp E y = .int k b) :
  mx P E ⟨d, .binOp .andNot c x y j, ty, pos, af, g⟩ W (.int k (k.wrap (BitVec.ofInt k.bits a &&& ~~~ BitVec.ofInt k.bits b).toNat)) W := by
 show (do let r ← (do eqGuard .andNot c x y (kp E x) (kp E y); binOp .andNot c (kp E x) (kp E y)); pure (.value r) : Sem Next).run P W = _
 rw [h, i]
 simp [eqGuard, binOp, Op.intBits]
end
def Th {β : Type} (P : Program) (fv : Value) (μ : kL) (Rl : pW β) (pm : β × β → Option Int) : Prop :=
 ∃ f caps, fv = .func (.func f) #[] caps ∧ (∀ args w, (callFunc f args).run P w = .ok (.enter f args) w) ∧ ∀ W x y z r, kH μ (hp W) → Rl (hp W) [y] x.1 → Rl (hp W) [z] x.2 → pm x = some r → kN true P f ([y, z] ++ caps.toList) W (.int .i64 r)
open Classical in
noncomputable def Fw {β : Type} (cf : β × β → Option Int) (l : List β) : Option (List β) := if l.Nodup then xF cf l else none
theorem pT.Lb {α : Type} {dd : Bool} {w W : World} {μ : kL} {L R : List (Nat × Obj)} {e : TypeId} {enc : α → List Value} {k : Nat} {v : Value} {l : List α} (h : pT e enc k v l R) (c : ST dd lM w W μ L) (i : ∀ p, p ∈ R → p ∈ L) : Fr w.heap.size v := by
 rcases h with ⟨rfl, rfl, rfl⟩ | ⟨g, off, cap, a, rfl, rfl, h1, j, m, n⟩
 ·exact Fr.nil _
 ·intro b d
  simp [Value.ownBlock] at d
  subst d
  rcases (c.box g (.cells a e (0, 0)) (i _ (aW.2 rfl))).2.2 with h | h
  ·exact h
  ·exact h.elim
theorem FR.mono {α β : Type} {P : Program} {fv : Value} {μ μ0 : kL} {a : α → List Value} {b : β → Value} {pm : α → Option β} (h : FR P fv μ a b pm) (g : kH μ μ0) : FR P fv μ0 a b pm := by
 obtain ⟨f, caps, h1, c, d⟩ := h
 exact ⟨f, caps, h1, c, fun W x r h => d W x r (g.trans h)⟩
theorem FR.form {α β : Type} {P : Program} {fv : Value} {μ : kL} {c : α → List Value} {d : β → Value} {pm : α → Option β} (h : FR P fv μ c d pm) : ∃ f a b, fv = .func f a b := let ⟨f, b, h, _⟩ := h; ⟨_, _, b, h⟩
theorem SC {P : Program} {E : Nat → Value} {d : Option Nat} {ty : TypeId} {pos : String} {af : Array Edge} {g : Option (Nat × Bool)} {F : Nat → Prop} {w W : World} {μ μ0 : kL} {L : List (Nat × Obj)} {dd : Bool} {α β : Type} {K : Value → World → Prop} {fv : Value} {b : α → List Value} {j : β → Value} {pm : α → Option β} {c : Operand} {ax : Array Operand} {ats : Array TypeId} (x : α) {r : β} (a : ST dd F w W μ L) (o : FR P fv μ0 b j pm) (q : kH μ0 μ) (p : kp E c = fv) (ha : ax.map (kp E) ++ (#[] : Array Value) = (b x).toArray) (hm : pm x = some r) (h : ∀ W', ST dd F w W' μ L → K (j r) W') : nu P E ⟨d, .call ⟨.value c, ax, ats⟩, ty, pos, af, g⟩ W K := by
 obtain ⟨f, caps, rfl, k, l⟩ := o
 have i : ax.map (kp E) = (b x).toArray := by simpa using ha
 refine .inr (.inr ⟨f, (b x ++ caps.toList).toArray, ?_, cZ ((l W x r (q.trans a.kw) hm).lZ (dd := dd)) (fun _ _ ⟨m, n⟩ => ⟨_, m, h _ (a.Fg n)⟩)⟩)
 show (do let d ← resolve (kp E) ⟨.value c, ax, ats⟩ ty; invoke d.target d.args : Sem Next).run P W = _
 simp only [resolve, p, Deferred.ofValue, cI, dt, bQ, invoke, i, k]
 congr 2
 simp
end Go.Proofs.YtklbhegeiijbjaaGreat
namespace Go.Proofs.YtklbhegeiijbjaaGreat
open Go.IntKind renaming wrap → wi0
open Go.Sort Go.Proofs Go.Shelf
theorem zM {g b : Nat} {o : Obj} : keys [(g, o)] b ↔ b = g := by
 constructor
 ·rintro ⟨a, h⟩
  simp at h
  exact h.1
 ·rintro rfl; exact ⟨o, by simp⟩
theorem zW (w : World) (g m : Nat) (f : Array Value → Array Value) (os : Array Obj) (b : Nat) (c : b < w.heap.size) :
  (Go.Sort.grow (mapBlock (Go.Sort.ahead w m) g f) os).heap[b]? = if g = b then w.heap[b]?.map (onCells f) else w.heap[b]? := by
 have a : b < (mapBlock (Go.Sort.ahead w m) g f).heap.size := by simp only [mapBlock, Go.Sort.ahead, Array.size_modify]; exact c
 rw [heap_grow_old _ _ a]
 simp only [mapBlock, Go.Sort.ahead, dW]
theorem Cl {w : World} {g m : Nat} {f : Array Value → Array Value} {os : Array Obj} {cs : Array Value} {T : TypeId} {fr : Nat × Nat} (c : w.heap[g]? = some (.cells cs T fr)) :
  uG true [(g, .cells cs T fr)] [(g, .cells (f cs) T fr)] w (Go.Sort.grow (mapBlock (Go.Sort.ahead w m) g f) os) := by
 have a : g < w.heap.size := (cN.1 c).1
 refine ⟨⟨rfl, rfl, rfl, ?_, ?_, fun b d i => ?_⟩, fun b o h => ?_, by simp⟩
 ·refine tu.of ?_
  show w.drawn ≤ w.drawn + m
  omega
 ·show w.heap.size ≤ (w.heap.modify g (onCells f) ++ os).size
  simp
 ·rw [zW _ _ _ _ _ _ d, aU fun h => i (zM.2 h.symm)]
 ·simp only [aO, dG, fL, Prod.mk.injEq] at h
  obtain ⟨rfl, rfl⟩ := h
  refine ⟨?_, .inr (zM.2 rfl)⟩
  rw [zW _ _ _ _ _ _ a, aV rfl, c]
  rfl
theorem GM {w W : World} (h : Ex true w W) : ∃ q os, W = Go.Sort.grow (w.drewN q) os := by
 refine ⟨W.drawn - w.drawn, W.heap.extract w.heap.size W.heap.size, ?_⟩
 have d : W.heap = w.heap ++ W.heap.extract w.heap.size W.heap.size := by
  apply Array.ext_getElem?
  intro i
  rw [Array.getElem?_append]
  split
  ·rename_i g; exact h.mR i g
  ·rename_i g
   rw [Array.getElem?_extract]
   have k := h.size
   split
   ·rw [show w.heap.size + (i - w.heap.size) = i by omega]
   ·exact Array.getElem?_eq_none (by omega)
 obtain ⟨h1, l, m, n, o⟩ := W
 have a := h.os; have b := h.tape; have c := h.output; have j := h.drawn rfl
 simp only at a b c j d
 unfold Go.Sort.grow World.drewN
 simp only [World.mk.injEq]
 exact ⟨d, b, by omega, a, c⟩
theorem Li {α : Type} [Inhabited α] {enc : α → List Value} {k : Nat} (hk : ∀ x, (enc x).length = k) (l : List α) (j : Nat) (a : j < l.length * k) :
  (l.map enc).flatten[j]? = some ((flatK enc k l.toArray)[j]!) := by
 have d : 0 < k := by
  cases k with
  | zero => simp at a
  | succ n => omega
 have h1 : j / k < l.length := (ie d).2 a
 rw [get_flatK _ _ _ _ (by simpa using a)]
 have g : l.toArray[j / k]! = l[j / k] := by
  rw [gM l.toArray (j / k) (by simpa using h1)]; simp
 rw [g]
 have b : j % k < (enc l[j / k]).length := by rw [hk]; exact Nat.mod_lt _ d
 have c := xk hk l (j / k) l[j / k] (cF h1) (j % k) ((enc l[j / k])[j % k]) (cF b)
 rw [Nat.div_add_mod' j k] at c
 rw [c, gM (enc l[j / k]) (j % k) b]
theorem IM {α : Type} [Inhabited α] {enc : α → List Value} {k : Nat} (hk : ∀ x, (enc x).length = k) {w : World} {g : Nat} {cs : Array Value} {T : TypeId} (b : w.heap[g]? = some (.cells cs T (0, 0))) (l : List α)
  (d : cs.toList.take (l.length * k) = (l.map enc).flatten) : HoldsK enc k w g 0 l.toArray := by
 intro j c
 have a : j < l.length * k := by simpa using c
 have h1 := Li hk l j a
 rw [← d, dS, aV a] at h1
 refine ⟨?_, ?_⟩
 ·simp only [World.cell?, b, dZ]
  simpa using h1
 ·simp [World.frozen?, b]
theorem KI {α : Type} [Inhabited α] {enc : α → List Value} {k : Nat} (hk : ∀ x, (enc x).length = k) {cs : Array Value} (l : List α) (b : l.length * k ≤ cs.size) :
  (putCells id 0 (flatK enc k l.toArray) cs).toList.take (l.length * k) = (l.map enc).flatten := by
 apply dQ
 intro j
 rw [dS]
 split
 ·rename_i a
  rw [Li hk l j a]
  simp only [putCells, du, ij, size_flatK, dp]
  rw [fa (by omega)]
  simp [a]
 ·rename_i a
  rw [dP (by rw [pj hk]; omega)]
theorem I0 (enc : Value → Value) (o : Nat) (d c : Array Value) : (putCells enc o d c).size = c.size := by simp [putCells]
section
variable {α : Type} {P : Program} {ρ : Ren}
theorem NU {l : List α} {cf : α × α → Option Int} (h : ED cf l) : SWO (ltOf fun (x y : {x // x ∈ l}) => (cf (x.1, y.1)).getD 0) ∧
  (∀ x y : {x // x ∈ l}, ltOf (fun (x y : {x // x ∈ l}) => (cf (x.1, y.1)).getD 0) x y = sN cf x.1 y.1) := by
 have e : ∀ x y : {x // x ∈ l}, ltOf (fun (x y : {x // x ∈ l}) => (cf (x.1, y.1)).getD 0) x y = sN cf x.1 y.1 := fun x y => by
  obtain ⟨c, g⟩ := h.is x.1 x.2 y.1 y.2
  simp [ltOf, sN, g]
 refine ⟨⟨fun x => ?_, fun x y z => ?_, fun x y z => ?_⟩, e⟩
 ·rw [e]; exact h.irrefl _ x.2
 ·rw [e, e, e]; exact h.trans _ x.2 _ y.2 _ z.2
 ·rw [e, e, e]
  intro h1 b
  cases a : sN cf x.1 z.1 with
  | false => rfl
  | true =>
   cases d : sN cf y.1 x.1 with
   | true =>
    have := h.trans _ y.2 _ x.2 _ z.2 d a
    rw [b] at this; cases this
   | false =>
    have := h.total _ x.2 _ y.2 h1 d
    rw [this, b] at a; cases a
theorem FY (L : SlLaysF0.n6 P ρ) (k : Nat) (aE : ∀ w, (isAgg (ρ.t 24)).run P w = .ok true w) (zE : ∀ w, (Go.sizeOf (ρ.t 24)).run P w = .ok k w) {e : TypeId} (enc : α → List Value) (hk : ∀ x, (enc x).length = k) (h1 : ∀ x, ∀ u ∈ enc x, u.oneCell' = true) {v fv : Value} {l r : List α} {R : List (Nat × Obj)} {cf : α × α → Option Int} {w : World} {μ0 : kL} (hH : DH (R ++ []) w) (A : kH μ0 (uz w (R ++ []))) (U : kC e enc k v l R) (hc : FR P fv μ0 (fun (x : α × α) => [(.agg (enc x.1).toArray), (.agg (enc x.2).toArray)]) (fun (r : Int) => (.int .i64 r)) cf) (hm : xF cf l = some r) :
  lH true P (ρ.f 6) [v, fv] w (R ++ []) (fun u L1 _ => ∃ (S : List (Nat × Obj)), u = (.tuple #[]) ∧ L1 = (S ++ []) ∧ kC e enc k v r S) := by
 obtain ⟨ok, rfl⟩ := AW hm
 rw [bE] at hH A ⊢
 rcases ed l.length with h0 | i
 ·have hl : l = [] := aP h0
  subst hl
  have W : pR cf ([] : List α) = [] := by simp [pR]
  rw [W]
  obtain ⟨p, c, rfl⟩ : ∃ p c, v = .slice p 0 c := by
   rcases U with ⟨rfl, _, _⟩ | ⟨g, cap, j, rfl, _⟩
   ·exact ⟨_, _, rfl⟩
   ·exact ⟨_, _, rfl⟩
  refine cZ (AnyF.slices_SortFunc_none L p c fv w) fun x w' ⟨hx, hw⟩ => ?_
  subst hx hw
  refine ⟨_, R, rfl, ⟨⟨rfl, rfl, rfl, tu.of (aS _), aS _, fun _ _ _ => rfl⟩, fun b o h => ⟨hH b o h, .inr ⟨o, h⟩⟩, ?_⟩, R, rfl, (bE R).symm, U⟩
  rcases U with ⟨_, _, rfl⟩ | ⟨g, cap, j, _, rfl, _⟩ <;> simp
 ·rcases U with ⟨_, rfl, _⟩ | ⟨g, cap, j, rfl, rfl, a6, a1, I, ab⟩
  ·simp at i
  have hg : w.heap[g]? = some (.cells j e (0, 0)) := hH g _ (by simp)
  have a7 : g < w.heap.size := (cN.1 hg).1
  haveI : Inhabited {x // x ∈ l} := ⟨⟨l[0], eP i⟩⟩
  obtain ⟨gg, caps, rfl, J, q⟩ := hc
  obtain ⟨hO, M⟩ := NU ok
  have D : l.attach.toArray.size = l.length := by simp
  have a8 : l.attach.map (fun x => enc x.1) = l.map enc := by
   rw [show (fun x : {x // x ∈ l} => enc x.1) = enc ∘ Subtype.val from rfl, ← ej, List.attach_map_subtype_val]
  have Y : HoldsK (fun x : {x // x ∈ l} => enc x.1) k w g 0 l.attach.toArray := IM (fun x => hk x.1) hg l.attach (by rw [a8, List.length_attach, ab])
  have G : CmpLays P gg caps (fun x : {x // x ∈ l} => enc x.1) k (fun x y => (cf (x.1, y.1)).getD 0) g 0 l.attach.toArray.size w := by
   intro m os dk ae x y
   obtain ⟨c, F⟩ := ok.is x.1 x.2 y.1 y.2
   have T : kH μ0 (hp (sortWorldK (fun x : {x // x ∈ l} => enc x.1) k w g 0 m dk os)) := fun b o hb => by
    have z := A b o hb
    unfold uz at z
    split at z
    ·cases z
    ·rename_i hn
     have Z : b < w.heap.size := (cN.1 z).1
     show (Go.Sort.grow (mapBlock (Go.Sort.ahead w m) g _) os).heap[b]? = _
     rw [zW _ _ _ _ _ _ Z, aU fun h => hn (zM.2 h.symm)]
     exact z
   have h3 := q (sortWorldK (fun x : {x // x ∈ l} => enc x.1) k w g 0 m dk os) (x.1, y.1) c T F
   have ea : ([Value.agg (enc x.1).toArray, Value.agg (enc y.1).toArray] ++ caps.toList).toArray = #[Value.agg (enc x.1).toArray, Value.agg (enc y.1).toArray] ++ caps := by
    apply Array.ext'; simp
   rw [← ea]
   exact cZ h3 fun u W' hu => ⟨by rw [hu.1]; show _ = Ending.returned (.int .i64 ((cf (x.1, y.1)).getD 0)); rw [F]; rfl, GM hu.2⟩
  have hT : ∀ x y : {x // x ∈ l}, ltOf (fun (x y : {x // x ∈ l}) => (cf (x.1, y.1)).getD 0) x y = false → ltOf (fun (x y : {x // x ∈ l}) => (cf (x.1, y.1)).getD 0) y x = false → x = y := fun x y a b => by
   rw [M] at a b
   exact Subtype.ext (ok.total _ x.2 _ y.2 a b)
  have d := AnyQ.slices_SortFunc_total L k aE zE (fun x : {x // x ∈ l} => enc x.1) (fun x => hk x.1) (fun x => h1 x.1) (fun x y => (cf (x.1, y.1)).getD 0) hO gg caps g 0 cap l.attach.toArray w J G Y a7 (by rw [D]; exact ok.short) hT
  rw [D] at d
  refine cZ d fun u w' ⟨hu, n, os, hw⟩ => ?_
  subst hu
  generalize W : l.attach.toArray.toList.mergeSort (fun x y => !ltOf (fun (x y : {x // x ∈ l}) => (cf (x.1, y.1)).getD 0) y x) = s at hw
  have aa : s.map Subtype.val = pR cf l := by
   rw [← W, gi (s := fun x y => !sN cf y x) (fun a _ b _ => by rw [M])]
   simp [pR]
  have Q : s.length = l.length := by rw [← W, fD]; simp
  have O : (pR cf l).length = l.length := by simp [pR, fD]
  have E := Cl (w := w) (m := n) (f := putCells id 0 (flatK (fun x : {x // x ∈ l} => enc x.1) k s.toArray)) (os := os) hg
  have ad : w' = Go.Sort.grow (mapBlock (Go.Sort.ahead w n) g (putCells id 0 (flatK (fun x : {x // x ∈ l} => enc x.1) k s.toArray))) os := hw
  rw [← ad] at E
  refine ⟨_, _, rfl, E, _, rfl, (bE _).symm, .inr ⟨g, cap, _, by rw [O], rfl, by omega, a1, by rw [I0, I], ?_⟩⟩
  rw [O, ← Q, KI (fun x => hk x.1) s (by rw [Q, I]; exact bZ k a6), ← aa, ej]
  rfl
end
end Go.Proofs.YtklbhegeiijbjaaGreat
namespace Go.Proofs.YtklbhegeiijbjaaGreat
open Go.IntKind renaming wrap → wi0
open Go.Sort Go.Proofs Go.Shelf Go.RowKit
def vr (c : sC 1) : Value := c.1.headD undef
theorem Fi (c : sC 1) : c.1 = [vr c] := by
 obtain ⟨l, h, b⟩ := c
 match l, h with
 | [a], _ => rfl
theorem OE (c : sC 1) : (vr c).oneCell' = true := c.2.2 _ (by rw [Fi c]; simp)
theorem MW : ∀ cl : List (sC 1), (cl.map uW).flatten = cl.map vr
 | [] => rfl
 | c :: cl => by rw [bH, bM, MW cl, show uW c = [vr c] from Fi c]; rfl
theorem OI {α β : Type} {Q : α → β → Prop} {cl : List α} {l : List β} (h : pn Q cl l) : ∀ (i : Nat) (x : β), l[i]? = some x → ∃ c, cl[i]? = some c ∧ Q c x := by
 induction h with
 | nil => intro i x a; simp at a
 | cons d _ ih =>
  intro i x a
  cases i with
  | zero => simp at a; subst a; exact ⟨_, by simp, d⟩
  | succ i => simp at a; obtain ⟨c, h1, b⟩ := ih i x a; exact ⟨c, by simpa using h1, b⟩
theorem Jn {α β γ : Type} {Q : α → β → Prop} {f : γ → α} {g : γ → β} : ∀ s : List γ, (∀ x ∈ s, Q (f x) (g x)) → pn Q (s.map f) (s.map g)
 | [], _ => .nil
 | x :: s, h => .cons (h x (by simp)) (Jn s (fun y a => h y (by simp [a])))
theorem RU {β : Type} {Q : sC 1 → β → Prop} {cl : List (sC 1)} {l : List β} (h : pn Q cl l) (p : l.Nodup) : ∃ enc : {x // x ∈ l} → sC 1, l.attach.map enc = cl ∧ ∀ x, Q (enc x) x.1 := by
 have d : ∀ x : {x // x ∈ l}, ∃ (i : Nat) (c : sC 1), l[i]? = some x.1 ∧ cl[i]? = some c ∧ Q c x.1 := fun x => by
  obtain ⟨i, a⟩ := List.getElem?_of_mem x.2
  obtain ⟨c, h1, o⟩ := OI h i _ a
  exact ⟨i, c, a, h1, o⟩
 refine ⟨fun x => (d x).choose_spec.choose, ?_, fun x => (d x).choose_spec.choose_spec.2.2⟩
 apply dQ
 intro i
 rw [dH]
 by_cases a : i < l.length
 ·have n : l.attach[i]? = some ⟨l[i], eP a⟩ := by
   rw [cF (by simpa using a)]; simp
  rw [n, dN]
  have q := (d ⟨l[i], eP a⟩).choose_spec.choose_spec
  generalize (d ⟨l[i], eP a⟩).choose_spec.choose = c at *
  generalize (d ⟨l[i], eP a⟩).choose = j at *
  obtain ⟨m, a2, _⟩ := q
  obtain ⟨k, g⟩ := bF.1 m
  have : j = i := by
   have hp := List.pairwise_iff_getElem.1 p
   rcases Nat.lt_trichotomy j i with b | b | b
   ·exact absurd g (hp j i k a b)
   ·exact b
   ·exact absurd g.symm (hp i j a k b)
  rw [← this, a2]
 ·rw [dP (by simpa using a), dP (by rw [h.length]; omega)]; rfl
theorem JV {α : Type} [Inhabited α] {enc : α → Value} {cs : Array Value} (l : List α) (b : l.length ≤ cs.size) :
  (putCells enc 0 l.toArray cs).toList.take l.length = l.map enc := by
 apply dQ
 intro j
 rw [dS, dH]
 split
 ·rename_i a
  simp only [putCells, du, ij, dp]
  rw [fa (by omega)]
  simp [a]
 ·rename_i a
  rw [dP (by omega)]; rfl
section
variable {P : Program} {ρ : Ren} {β : Type} {Rl : pW β}
theorem KL (L : SlLaysF.n6 P ρ) (hD : Deep Rl 1) {e : TypeId} {v fv : Value} {l r : List β} {R : List (Nat × Obj)} {cf : β × β → Option Int} {w : World} {μ0 : kL} (h0 : nN μ0 (R ++ []) w) (hr : lC e Rl 1 μ0 v l R) (hc : Th P fv μ0 Rl cf) (hm : Fw cf l = some r) :
  mj true P (ρ.f 6) [v, fv] w μ0 (R ++ []) (fun u L1 μ1 => ∃ (S : List (Nat × Obj)), u = (.tuple #[]) ∧ L1 = (S ++ []) ∧ lC e Rl 1 μ1 v r S) := by
 unfold Fw at hm
 have hn : l.Nodup := ep fun h => by rw [aU h] at hm; cases hm
 rw [aV hn] at hm
 obtain ⟨ok, rfl⟩ := AW hm
 have hH := h0.H
 have D := h0.S
 obtain ⟨cl, d, k⟩ := hr
 have hlen := k.length
 rw [bE] at hH D ⊢
 rcases ed l.length with hz | W
 ·have hl : l = [] := aP hz
  subst hl
  have a7 : cl = [] := aP (by simpa using hlen)
  subst a7
  have hs : pR cf ([] : List β) = [] := by simp [pR]
  rw [hs]
  obtain ⟨p, c, rfl⟩ : ∃ p c, v = .slice p 0 c := by
   rcases d with ⟨rfl, _, _⟩ | ⟨g, cap, i, rfl, _⟩
   ·exact ⟨_, _, rfl⟩
   ·exact ⟨_, _, rfl⟩
  refine cZ (AnyF.slices_SortFunc_none (P := P) (ρ := ρ) { L with } p c fv w) fun x w' ⟨hx, hw⟩ => ?_
  subst hx hw
  refine ⟨_, R, μ0, rfl, ⟨⟨rfl, rfl, rfl, tu.of (aS _), aS _, fun _ _ _ => rfl⟩, fun b o h => ⟨hH b o h, .inr ⟨o, h⟩⟩, ?_⟩, kH.refl _, Lo.refl, D, R, rfl, (bE R).symm, [], d, k⟩
  rcases d with ⟨_, _, rfl⟩ | ⟨g, cap, i, _, rfl, _⟩ <;> simp
 ·rcases d with ⟨_, rfl, _⟩ | ⟨g, cap, i, rfl, rfl, ab, a8, aa, G⟩
  ·simp at hlen; omega
  rw [hlen] at ab G
  rw [MW, Nat.mul_one] at G
  rw [Nat.mul_one] at aa
  have hg : w.heap[g]? = some (.cells i e (0, 0)) := hH g _ (by simp)
  have ad : g < w.heap.size := (cN.1 hg).1
  haveI : Inhabited {x // x ∈ l} := ⟨⟨l[0], eP W⟩⟩
  obtain ⟨enc, he, hq⟩ := RU k hn
  obtain ⟨gg, caps, rfl, T, E⟩ := hc
  obtain ⟨hO, U⟩ := NU ok
  have J : l.attach.toArray.size = l.length := by simp
  have Y : cl.map vr = l.attach.map (fun x => vr (enc x)) := by rw [← he, ej]; rfl
  have a1 : Holds (fun x : {x // x ∈ l} => vr (enc x)) w g 0 l.attach.toArray := by
   intro j hj
   have F : j < l.length := by simpa using hj
   have e1 : i[j]? = some (vr (enc l.attach.toArray[j]!)) := by
    have h1 : (i.toList.take l.length)[j]? = i[j]? := by rw [dS, aV F]; simp
    rw [← h1, G, Y, dH, cF (by simpa using F), dN]
    rw [gM l.attach.toArray j (by simpa using F)]; simp
   refine ⟨?_, ?_⟩
   ·simp only [World.cell?, hg, dZ]
    simpa using e1
   ·simp [World.frozen?, hg]
  have z : ∀ (m : Nat) (os : Array Obj) (I : Array {x // x ∈ l}), kH μ0 (hp (sortWorld (fun x : {x // x ∈ l} => vr (enc x)) w g 0 m I os)) := fun m os I b o Z => by
   have A := D b o Z
   unfold uz at A
   split at A
   ·cases A
   ·rename_i hn
    have a6 : b < w.heap.size := (cN.1 A).1
    show (Go.Sort.grow (mapBlock (Go.Sort.ahead w m) g _) os).heap[b]? = _
    rw [zW _ _ _ _ _ _ a6, aU fun h => hn (zM.2 h.symm)]
    exact A
  have Q : CmpLays1 P gg caps (fun x : {x // x ∈ l} => vr (enc x)) (fun x y => (cf (x.1, y.1)).getD 0) g 0 l.attach.toArray.size w := by
   intro m os I ai x y
   obtain ⟨c, O⟩ := ok.is x.1 x.2 y.1 y.2
   have t := z m os I
   have h3 := E (sortWorld (fun x : {x // x ∈ l} => vr (enc x)) w g 0 m I os) (x.1, y.1) (vr (enc x)) (vr (enc y)) c t (by rw [← Fi]; exact hD.mono _ _ _ _ t (hq x)) (by rw [← Fi]; exact hD.mono _ _ _ _ t (hq y)) O
   have ea : ([vr (enc x), vr (enc y)] ++ caps.toList).toArray = #[vr (enc x), vr (enc y)] ++ caps := by
    apply Array.ext'; simp
   rw [← ea]
   exact cZ h3 fun u W' hu => ⟨by rw [hu.1]; show _ = Ending.returned (.int .i64 ((cf (x.1, y.1)).getD 0)); rw [O]; rfl, GM hu.2⟩
  have hT : ∀ x y : {x // x ∈ l}, ltOf (fun (x y : {x // x ∈ l}) => (cf (x.1, y.1)).getD 0) x y = false → ltOf (fun (x y : {x // x ∈ l}) => (cf (x.1, y.1)).getD 0) y x = false → x = y := fun x y a b => by
   rw [U] at a b
   exact Subtype.ext (ok.total _ x.2 _ y.2 a b)
  have q := Any.slices_SortFunc_total L (fun x : {x // x ∈ l} => vr (enc x)) (fun x => OE _) (fun x y => (cf (x.1, y.1)).getD 0) hO gg caps g 0 cap l.attach.toArray w T Q a1 ad (by rw [J]; exact ok.short) hT
  rw [J] at q
  rw [hlen]
  refine cZ q fun u w' ⟨hu, n, os, hw⟩ => ?_
  subst hu
  generalize hs : l.attach.toArray.toList.mergeSort (fun x y => !ltOf (fun (x y : {x // x ∈ l}) => (cf (x.1, y.1)).getD 0) y x) = s at hw
  have ag : s.map Subtype.val = pR cf l := by
   rw [← hs, gi (s := fun x y => !sN cf y x) (fun a _ b _ => by rw [U])]
   simp [pR]
  have af : s.length = l.length := by rw [← hs, fD]; simp
  have M := Cl (w := w) (m := n) (f := putCells (fun x : {x // x ∈ l} => vr (enc x)) 0 s.toArray) (os := os) hg
  have ah : w' = Go.Sort.grow (mapBlock (Go.Sort.ahead w n) g (putCells (fun x : {x // x ∈ l} => vr (enc x)) 0 s.toArray)) os := hw
  rw [← ah] at M
  refine ⟨_, _, μ0, rfl, M, kH.refl _, Lo.refl, ?_, _, rfl, (bE _).symm, s.map enc, .inr ⟨g, cap, _, by rw [cR, af], rfl, by rw [cR]; omega, a8, by simp [putCells]; omega, ?_⟩, ?_⟩
  ·intro b o Z
   have A := D b o Z
   unfold uz at A ⊢
   split at A
   ·cases A
   ·rename_i ae
    rw [aU (fun h => ae (zM.2 (zM.1 h)))]
    have := z n os s.toArray b o Z
    rw [hw]; exact this
  ·rw [cR, Nat.mul_one, MW, ej]
   exact JV s (by omega)
  ·rw [← ag]
   exact Jn s (fun x _ => hq x)
end
end Go.Proofs.YtklbhegeiijbjaaGreat
namespace Go.Proofs.YtklbhegeiijbjaaGreat
open Go.IntKind renaming wrap → wi0
open Go.Sort Go.Proofs Go.Shelf
theorem EK (b : ByteArray) : b.toList = b.data.toList := by rw [fk]
theorem Jd (l : List ByteArray) : (l.map ob).flatten = l.map Value.string := by
 induction l with
 | nil => rfl
 | cons x l ih => simp only [bH, bM, ih]; rfl
theorem Jk (l : List ByteArray) : (oF l).map (fun b => b.data.toList) = (l.map (fun b => b.data.toList)).mergeSort (fun x y => decide (x ≤ y)) := by
 unfold oF
 refine gi fun a _ b _ => ?_
 unfold pV
 rw [bytesLess_eq, EK, EK]
 by_cases h : a.data.toList ≤ b.data.toList
 ·have c : ¬ b.data.toList < a.data.toList := List.not_lt.2 h
  simp [h, c]
 ·have c : b.data.toList < a.data.toList := by
   cases Decidable.em (b.data.toList < a.data.toList) with
   | inl d => exact d
   | inr d => exact absurd (List.not_lt.1 d) h
  simp [h, c]
section
variable {P : Program} {ρ : Ren}
theorem KC (L : SlLaysM.n6 P ρ) {e : TypeId} {v : Value} {l r : List ByteArray} {R : List (Nat × Obj)} {w : World} (hH : DH (R ++ []) w) (A : kC e ob 1 v l R) (hm : Fh l = some r) :
  lH true P (ρ.f 6) [v] w (R ++ []) (fun u L1 _ => ∃ (S : List (Nat × Obj)), u = (.tuple #[]) ∧ L1 = (S ++ []) ∧ kC e ob 1 v r S) := by
 unfold Fh at hm
 split at hm
 ·rename_i k
  cases hm
  rw [bE] at hH ⊢
  rcases ed l.length with O | s
  ·have U : l = [] := aP O
   subst U
   have Y : oF [] = [] := by simp [oF]
   rw [Y]
   obtain ⟨p, c, rfl⟩ : ∃ p c, v = .slice p 0 c := by
    rcases A with ⟨rfl, _, _⟩ | ⟨g, cap, d, rfl, _⟩
    ·exact ⟨_, _, rfl⟩
    ·exact ⟨_, _, rfl⟩
   refine cZ (AnyM.slices_Sort_string_none L p c w) fun x M ⟨Z, hw⟩ => ?_
   subst Z hw
   refine ⟨_, R, rfl, ⟨⟨rfl, rfl, rfl, tu.of (aS _), aS _, fun _ _ _ => rfl⟩, fun b o h => ⟨hH b o h, .inr ⟨o, h⟩⟩, ?_⟩, R, rfl, (bE R).symm, A⟩
   rcases A with ⟨_, _, rfl⟩ | ⟨g, cap, d, _, rfl, _⟩ <;> simp
  ·rcases A with ⟨_, rfl, _⟩ | ⟨g, cap, d, rfl, rfl, W, E, F, I⟩
   ·simp at s
   have y : w.heap[g]? = some (.cells d e (0, 0)) := hH g _ (by simp)
   have G : g < w.heap.size := (cN.1 y).1
   have D : Holds encStr w g 0 (l.map (fun b => b.data.toList)).toArray := by
    intro j z
    have i : j < l.length := by simpa using z
    have h1 : (d.toList.take (l.length * 1))[j]? = ((l.map ob).flatten)[j]? := by rw [I]
    rw [Jd, dS, aV (by omega), dH, cF i] at h1
    refine ⟨?_, by simp [World.frozen?, y]⟩
    simp only [World.cell?, y, dZ]
    rw [gM _ j z]
    simpa using h1
   have a := AnyM.slices_Sort_string L g 0 cap (l.map (fun b => b.data.toList)) w D G (by simpa using k)
   rw [cR, ← Jk] at a
   refine cZ a fun u M ⟨hu, n, os, hw⟩ => ?_
   subst hu
   have t : (oF l).length = l.length := by simp [oF, fD]
   have q := Cl (w := w) (m := n) (f := putCells encStr 0 ((oF l).map (fun b => b.data.toList)).toArray) (os := os) y
   have J : M = Go.Sort.grow (mapBlock (Go.Sort.ahead w n) g (putCells encStr 0 ((oF l).map (fun b => b.data.toList)).toArray)) os := hw
   rw [← J] at q
   refine ⟨_, _, rfl, q, _, rfl, (bE _).symm, .inr ⟨g, cap, _, by rw [t], rfl, by omega, E, by simpa [putCells] using F, ?_⟩⟩
   rw [t, Jd]
   apply dQ
   intro j
   rw [dS]
   split
   ·rename_i z
    have i : j < (oF l).length := by omega
    rw [dH, cF i]
    simp only [putCells, du, ij]
    rw [fa (by omega)]
    have Q : j < ((oF l).map (fun b => b.data.toList)).toArray.size := by simpa using i
    have T : 0 ≤ j ∧ j < 0 + ((oF l).map (fun b => b.data.toList)).toArray.size := ⟨by omega, by omega⟩
    simp only [dN, aV T, Nat.sub_zero]
    rw [gM _ j Q]
    simp
   ·rename_i z
    rw [dP (by simp; omega)]
 ·cases hm
end
end Go.Proofs.YtklbhegeiijbjaaGreat
namespace Go.Proofs.YtklbhegeiijbjaaGreat
open Go.IntKind renaming wrap → wi0
open Go.WideElems Go.WideShapes Go.Sort Go.Proofs Go.Shelf
theorem KE {β : Type} {vf : β → Value} {P : Program} {kt : TypeId} (y : P.underlying kt = some .string) {l : List (ByteArray × β)} {es : Array MapEntry} {clock : Nat} (h : vh Value.string vf l es clock) (u : (l.map (·.1)).Nodup) (w : ∀ p ∈ l, p.1.size ≤ maxLen) (t : l.length ≤ maxLen) {W : World} {b : Nat} (r : W.heap[b]? = some (.map es clock)) : ∃ D : DataW Unit, W.ownsMap P kt (fun _ => some (.lit (.bool true), [])) b es.size D ∧ (strKeys D).Perm (l.map (fun p => p.1.data.toList)) ∧ Maps.size D = l.length := by
 have c := h.keys
 have m : ∀ x ∈ es.toList, ∃ s : ByteArray, x.key = .string s ∧ s.size ≤ maxLen := fun x i => by
  have h1 : x.key ∈ es.toList.map (·.key) := bG.2 ⟨x, i, rfl⟩
  rw [c] at h1
  obtain ⟨s, g, j⟩ := bG.1 h1
  obtain ⟨p, o, q⟩ := bG.1 g
  exact ⟨s, j.symm, by rw [← q]; exact w p o⟩
 have d : ∀ x ∈ es.toList, ∃ s : ByteArray, x.key = .string s ∧ Go.WideElems.rd (H := Unit) P kt (fun _ => some (.lit (.bool true), [])) x = some (.string s.data.toList, .lit (.bool true)) := fun x i => by
  obtain ⟨s, h1, g⟩ := m x i
  refine ⟨s, h1, ?_⟩
  simp [Go.WideElems.rd, keyOf, y, mapKey, h1, g]
 refine ⟨_, ⟨es, clock, r, ⟨by rw [h.length]; exact t, ⟨h.lt, ?_, ?_⟩, fun x i => ?_⟩, aS _, rfl⟩, ?_, ?_⟩
 ·have := h.born
  rw [List.Nodup, fF]
  exact this.imp (fun {a b} h => by omega)
 ·rw [c]
  rw [List.Nodup, fF]
  exact u.imp (fun {a b} k e => k (by injection e))
 ·obtain ⟨s, _, g⟩ := d x i
  exact ⟨_, g⟩
 ·have h1 := (sorted_perm (es.toList.map (Go.WideElems.rg (H := Unit) P kt (fun _ => some (.lit (.bool true), []))))).map (fun p => strOf p.1)
  refine List.Perm.trans h1 ?_
  have e : (es.toList.map (Go.WideElems.rg (H := Unit) P kt (fun _ => some (.lit (.bool true), [])))).map (fun p => strOf p.1) = l.map (fun p => p.1.data.toList) := by
   have n : (es.toList.map (Go.WideElems.rg (H := Unit) P kt (fun _ => some (.lit (.bool true), [])))).map (fun p => strOf p.1) = (es.toList.map (·.key)).map (fun v => match v with | .string s => s.data.toList | _ => []) := by
    rw [ej, ej]
    refine List.map_congr_left fun x i => ?_
    obtain ⟨s, g, j⟩ := d x i
    simp [Go.WideElems.rg, j, g, strOf]
   rw [n, c, ej, ej]
   rfl
  rw [e]
 ·have h1 := (sorted_perm (es.toList.map (Go.WideElems.rg (H := Unit) P kt (fun _ => some (.lit (.bool true), []))))).length_eq
  show (List.foldr DataW.insert [] _).length = _
  rw [h1, cR, ← h.length]
  simp
theorem IR {l : List ByteArray} {g : List (List UInt8)} (h : g.Perm (l.map fun b => b.data.toList)) : g.mergeSort (fun x y => decide (x ≤ y)) = (oF l).map (fun b => b.data.toList) := by
 rw [Jk]
 have le : ∀ a b c : List UInt8, decide (a ≤ b) = true → decide (b ≤ c) = true → decide (a ≤ c) = true := fun a b c h1 d => by
  simp only [cH] at *
  exact List.le_trans h1 d
 have tot : ∀ a b : List UInt8, (decide (a ≤ b) || decide (b ≤ a)) = true := fun a b => by
  simp only [fw, cH]
  exact List.le_total a b
 refine List.Perm.eq_of_pairwise (le := fun a b => decide (a ≤ b) = true) (fun a b _ _ h1 d => List.le_antisymm (by simpa using h1) (by simpa using d)) (gB le tot _) (gB le tot _) ?_
 exact (iL _ _).trans (h.trans (iL _ _).symm)
section
variable {P : Program} {ρk ρt ρm : Ren}
theorem KB (LK : SlLaysZ.n7 P ρk) (LT : SlLaysZ.n6 P ρt) (LM : SlLaysM.n6 P ρm) (h9 : ρt.f 9 = ρm.f 6) (hK : P.underlying (ρk.t 26) = some .string) (eg : ∀ args w, (callFunc (ρk.f 10) args).run P w = .ok (.enter (ρk.f 10) args) w) (es : ∀ args w, (callFunc (ρt.f 9) args).run P w = .ok (.enter (ρt.f 9) args) w) {β : Type} {vf : β → Value} {l : List (ByteArray × β)} {b : Nat} {mv : Value} {t : TypeId} {W : World} {r : List ByteArray} (u : W.heap[b]? = some (.cells #[mv] t (0, 0))) (hm : vi Value.string vf (hp W) mv l) (hk : GK l = some r) :
  ma false P (ρt.f 6) [.func (.func (ρk.f 10)) #[] #[.pointer (some ⟨b, 0, none⟩)]] W (ρt.t 26) ob 1 r := by
 unfold GK at hk
 split at hk
 case isFalse => cases hk
 rename_i hc
 obtain ⟨R, T, U⟩ := hc
 cases hk
 have i : b < W.heap.size := (cN.1 u).1
 have c : W.cell? ⟨b, 0, none⟩ = some mv := by simp [World.cell?, u]
 have q : AnyZ.SortsIn P ρt Fence.wide 4 :=
  ⟨fun L off cap d W hH hblk s => callsIn_wide.2 (by rw [h9]; exact AnyM.slices_Sort_string LM L off cap d W hH hblk s), fun p cap W => callsIn_wide.2 (by rw [h9]; exact AnyM.slices_Sort_string_none LM p cap W)⟩
 have G : SeqGives Fence.wide 2 P (ρk.f 10) #[.pointer (some ⟨b, 0, none⟩)] encStr (fun d => d.Perm ((l.map (·.1)).map fun b => b.data.toList)) l.length W := by
  rcases hm with ⟨rfl, rfl⟩ | ⟨m, es, clock, rfl, a1, A⟩
  ·have := AnyZ.keys_gives_nil (ρ := ρk) { LK with } Fence.wide 2 trivial rfl b W i c
   intro l' J W' O M Q I
   refine CallsIn.mono (this l' J W' O M Q I) ?_
   rintro e w' ⟨hv, d, rfl, hj⟩
   exact ⟨hv, [], bI _, hj⟩
  ·obtain ⟨D, E, n, s⟩ := KE hK A R T (by unfold maxLen; omega) a1
   have := AnyZ.keys_gives (ρ := ρk) { LK with } Fence.wide 2 trivial rfl (by omega) b m es.size D W i c E
   intro l' J W' O M Q I
   refine CallsIn.mono (this l' J W' O M (by rw [s]; exact Q) I) ?_
   rintro e w' ⟨hv, d, hp, hj⟩
   refine ⟨hv, d, ?_, hj⟩
   rw [ej]
   exact hp.trans n
 have cS := AnyZ.sorted_in LT Fence.wide 5 trivial trivial trivial trivial rfl (by omega) q es (ρk.f 10) #[.pointer (some ⟨b, 0, none⟩)] trivial eg _ l.length (by unfold maxLen; omega) U W G
 refine cZ (callsIn_wide.1 cS) ?_
 rintro e w' ⟨v, d, rfl, hS, F, a7, a⟩
 have hs := IR hS
 have hlen : d.length = (oF (l.map (·.1))).length := by
  have := aR List.length hs
  simpa using this
 have k : (d.mergeSort (fun x y => decide (x ≤ y))).map encStr = ((oF (l.map (·.1))).map ob).flatten := by
  rw [hs, Jd, ej]
  refine List.map_congr_left (fun x _ => ?_)
  simp only [Function.comp, encStr]
 rcases F.2 with ⟨rfl, I⟩ | ⟨g, cap, z, rfl, j, hg, a8, Y, Z, a6⟩
 ·have : oF (l.map (·.1)) = [] := aP (by omega)
  rw [this]
  exact ⟨_, [], rfl, uG.I2 ⟨a.os, a.tape, a.output, fun h => (by cases h), a.size, fun b u => a.block b u⟩ (fun _ _ h => by cases h) (by simp), kC.nil _ _ _⟩
 ·refine ⟨_, [(g, .cells z (ρt.t 26) (0, 0))], rfl, uG.I2 ⟨a.os, a.tape, a.output, fun h => (by cases h), a.size, fun b u => a.block b u⟩ (fun b o h => by simp at h; obtain ⟨rfl, rfl⟩ := h; exact ⟨hg, j⟩) (by simp), .inr ⟨g, cap, z, by rw [hlen], rfl, by omega, Y, Z, ?_⟩⟩
  rw [← hlen, a6, k]
end
end Go.Proofs.YtklbhegeiijbjaaGreat
namespace Go.Proofs.YtklbhegeiijbjaaGreat
open Go.IntKind renaming wrap → wi0
def eQ := @Tryz.underlying9
def fb := @Tryz.zeroValue9
def fp := @Tryz.underlying0
def fz := @Tryz.zeroValue0
def fO := @Tryz.underlying4
def fP := @Tryz.sizeOf9
def gh := @Tryz.zeroValue4
def gj := @Tryz.underlying232
def gk := @Tryz.underlying276
def gl := @Tryz.underlying277
def gm := @Tryz.underlying281
def gn := @Tryz.underlying284
def gp := @Tryz.underlying235
def gq := @Tryz.underlying310
def gr := @Tryz.underlying314
def gu := @Tryz.underlying343
def gv := @Tryz.underlying200
def gC := @Tryz.isAgg9
def gN := @Tryz.sizeOf0
def gO := @Tryz.zeroValue232
def gP := @Tryz.zeroValue276
def gQ := @Tryz.zeroValue277
def gS := @Tryz.zeroValue281
def gT := @Tryz.zeroValue284
def gU := @Tryz.zeroValue235
def gV := @Tryz.zeroValue310
def gW := @Tryz.zeroValue314
def gX := @Tryz.zeroValue343
def gY := @Tryz.zeroValue200
def iu := @Tryz.underlying3
def iv := @Tryz.underlying5
def iF := @Tryz.isAgg0
def iI := @Tryz.zeroValue3
def iJ := @Tryz.zeroValue5
def iO := @Tryz.sizeOf4
def iT := @Tryz.sizeOf232
def iU := @Tryz.sizeOf276
def iV := @Tryz.sizeOf277
def iW := @Tryz.sizeOf281
def iX := @Tryz.sizeOf284
def iY := @Tryz.sizeOf235
def iZ := @Tryz.sizeOf310
def ja := @Tryz.sizeOf314
def jb := @Tryz.sizeOf343
def jc := @Tryz.sizeOf200
def jd := @Tryz.underlying261
def jl := @Tryz.isAgg4
def jm := @Tryz.zeroValue261
def jt := @Tryz.isAgg232
def ju := @Tryz.isAgg276
def jv := @Tryz.isAgg277
def jw := @Tryz.isAgg281
def jx := @Tryz.isAgg284
def jy := @Tryz.isAgg235
def jz := @Tryz.isAgg310
def jA := @Tryz.isAgg314
def jB := @Tryz.isAgg343
def jC := @Tryz.isAgg200
def jM := @Tryz.sizeOf3
def jN := @Tryz.sizeOf5
def jU := @Tryz.isAgg3
def jV := @Tryz.isAgg5
def Nh : Go.Shelf.Ren := ⟨fun | 6 => 114 | 15 => 177 | 14 => 176 | 28 => 238 | 29 => 239 | 20 => 230 | 21 => 231 | 22 => 232 | 23 => 233 | 24 => 234 | 25 => 235 | 26 => 236 | 27 => 237 | 46 => 277 | 47 => 278 | 48 => 279 | 49 => 280 | 50 => 281 | 57 => 317 | n => n, fun | 22 => 28 | 24 => 52 | 25 => 177 | 3 => 3 | 39 => 232 | 0 => 0 | 53 => 284 | 55 => 235 | 4 => 4 | 46 => 277 | 45 => 276 | 50 => 281 | 5 => 5 | 9 => 9 | 66 => 310 | 70 => 314 | 76 => 343 | 77 => 200 | n => n, fun | n => n⟩
theorem QX : Go.Proofs.SlLaysF0.n6 Tryz.prog Nh := {
 mixed := by kernel_rfl,
 f6 := ⟨Tryz.f114.name, by decide, Tryz.func114.trans (aR some (by kernel_rfl))⟩,
 f14 := ⟨Tryz.f176.name, by decide, Tryz.func176.trans (aR some (by kernel_rfl))⟩,
 f15 := Tryz.func177.trans (aR some (by kernel_rfl)),
 f20 := ⟨Tryz.f230.name, by decide, Tryz.func230.trans (aR some (by kernel_rfl))⟩,
 f21 := ⟨Tryz.f231.name, by decide, Tryz.func231.trans (aR some (by kernel_rfl))⟩,
 f22 := ⟨Tryz.f232.name, by decide, Tryz.func232.trans (aR some (by kernel_rfl))⟩,
 f23 := ⟨Tryz.f233.name, by decide, Tryz.func233.trans (aR some (by kernel_rfl))⟩,
 f24 := ⟨Tryz.f234.name, by decide, Tryz.func234.trans (aR some (by kernel_rfl))⟩,
 f25 := ⟨Tryz.f235.name, by decide, Tryz.func235.trans (aR some (by kernel_rfl))⟩,
 f26 := ⟨Tryz.f236.name, by decide, Tryz.func236.trans (aR some (by kernel_rfl))⟩,
 f27 := ⟨Tryz.f237.name, by decide, Tryz.func237.trans (aR some (by kernel_rfl))⟩,
 f28 := Tryz.func238.trans (aR some (by kernel_rfl)),
 f29 := Tryz.func239.trans (aR some (by kernel_rfl)),
 f46 := ⟨Tryz.f277.name, by decide, Tryz.func277.trans (aR some (by kernel_rfl))⟩,
 f47 := Tryz.func278.trans (aR some (by kernel_rfl)),
 f48 := Tryz.func279.trans (aR some (by kernel_rfl)),
 f49 := ⟨Tryz.f280.name, by decide, Tryz.func280.trans (aR some (by kernel_rfl))⟩,
 f50 := ⟨Tryz.f281.name, by decide, Tryz.func281.trans (aR some (by kernel_rfl))⟩,
 f57 := ⟨Tryz.f317.name, by decide, Tryz.func317.trans (aR some (by kernel_rfl))⟩,
 t0 := fp,
 a0 := iF,
 z0 := gN,
 v0 := fz,
 t3 := iu,
 a3 := jU,
 z3 := jM,
 v3 := iI,
 t4 := fO,
 a4 := jl,
 z4 := iO,
 v4 := gh,
 t5 := iv,
 a5 := jV,
 z5 := jN,
 v5 := iJ,
 t9 := eQ,
 a9 := gC,
 z9 := fP,
 v9 := fb,
 t22 := Tryz.underlying28,
 a22 := Tryz.isAgg28,
 z22 := Tryz.sizeOf28,
 v22 := Tryz.zeroValue28,
 t25 := Tryz.underlying177,
 a25 := Tryz.isAgg177,
 z25 := Tryz.sizeOf177,
 v25 := Tryz.zeroValue177,
 t39 := gj,
 a39 := jt,
 z39 := iT,
 v39 := gO,
 t45 := gk,
 a45 := ju,
 z45 := iU,
 v45 := gP,
 t46 := gl,
 a46 := jv,
 z46 := iV,
 v46 := gQ,
 t50 := gm,
 a50 := jw,
 z50 := iW,
 v50 := gS,
 t53 := gn,
 a53 := jx,
 z53 := iX,
 v53 := gT,
 t55 := gp,
 a55 := jy,
 z55 := iY,
 v55 := gU,
 t66 := gq,
 a66 := jz,
 z66 := iZ,
 v66 := gV,
 t70 := gr,
 a70 := jA,
 z70 := ja,
 v70 := gW,
 t76 := gu,
 a76 := jB,
 z76 := jb,
 v76 := gX,
 t77 := gv,
 a77 := jC,
 z77 := jc,
 v77 := gY}
def Om : Go.Shelf.Ren := ⟨fun | 6 => 154 | 15 => 177 | 14 => 208 | 28 => 238 | 29 => 239 | 20 => 252 | 21 => 253 | 22 => 254 | 23 => 255 | 24 => 256 | 25 => 257 | 26 => 258 | 27 => 259 | 46 => 293 | 47 => 278 | 48 => 279 | 49 => 294 | 50 => 295 | 57 => 324 | n => n, fun | 22 => 34 | 24 => 50 | 25 => 214 | 3 => 3 | 39 => 232 | 0 => 0 | 53 => 284 | 55 => 235 | 4 => 4 | 46 => 277 | 45 => 276 | 50 => 281 | 5 => 5 | 9 => 9 | 66 => 310 | 70 => 314 | 76 => 343 | 77 => 200 | n => n, fun | n => n⟩
theorem RJ : Go.Proofs.SlLaysF0.n6 Tryz.prog Om := {
 mixed := by kernel_rfl,
 f6 := ⟨Tryz.f154.name, by decide, Tryz.func154.trans (aR some (by kernel_rfl))⟩,
 f14 := ⟨Tryz.f208.name, by decide, Tryz.func208.trans (aR some (by kernel_rfl))⟩,
 f15 := Tryz.func177.trans (aR some (by kernel_rfl)),
 f20 := ⟨Tryz.f252.name, by decide, Tryz.func252.trans (aR some (by kernel_rfl))⟩,
 f21 := ⟨Tryz.f253.name, by decide, Tryz.func253.trans (aR some (by kernel_rfl))⟩,
 f22 := ⟨Tryz.f254.name, by decide, Tryz.func254.trans (aR some (by kernel_rfl))⟩,
 f23 := ⟨Tryz.f255.name, by decide, Tryz.func255.trans (aR some (by kernel_rfl))⟩,
 f24 := ⟨Tryz.f256.name, by decide, Tryz.func256.trans (aR some (by kernel_rfl))⟩,
 f25 := ⟨Tryz.f257.name, by decide, Tryz.func257.trans (aR some (by kernel_rfl))⟩,
 f26 := ⟨Tryz.f258.name, by decide, Tryz.func258.trans (aR some (by kernel_rfl))⟩,
 f27 := ⟨Tryz.f259.name, by decide, Tryz.func259.trans (aR some (by kernel_rfl))⟩,
 f28 := Tryz.func238.trans (aR some (by kernel_rfl)),
 f29 := Tryz.func239.trans (aR some (by kernel_rfl)),
 f46 := ⟨Tryz.f293.name, by decide, Tryz.func293.trans (aR some (by kernel_rfl))⟩,
 f47 := Tryz.func278.trans (aR some (by kernel_rfl)),
 f48 := Tryz.func279.trans (aR some (by kernel_rfl)),
 f49 := ⟨Tryz.f294.name, by decide, Tryz.func294.trans (aR some (by kernel_rfl))⟩,
 f50 := ⟨Tryz.f295.name, by decide, Tryz.func295.trans (aR some (by kernel_rfl))⟩,
 f57 := ⟨Tryz.f324.name, by decide, Tryz.func324.trans (aR some (by kernel_rfl))⟩,
 t0 := fp,
 a0 := iF,
 z0 := gN,
 v0 := fz,
 t3 := iu,
 a3 := jU,
 z3 := jM,
 v3 := iI,
 t4 := fO,
 a4 := jl,
 z4 := iO,
 v4 := gh,
 t5 := iv,
 a5 := jV,
 z5 := jN,
 v5 := iJ,
 t9 := eQ,
 a9 := gC,
 z9 := fP,
 v9 := fb,
 t22 := Tryz.underlying34,
 a22 := Tryz.isAgg34,
 z22 := Tryz.sizeOf34,
 v22 := Tryz.zeroValue34,
 t25 := Tryz.underlying214,
 a25 := Tryz.isAgg214,
 z25 := Tryz.sizeOf214,
 v25 := Tryz.zeroValue214,
 t39 := gj,
 a39 := jt,
 z39 := iT,
 v39 := gO,
 t45 := gk,
 a45 := ju,
 z45 := iU,
 v45 := gP,
 t46 := gl,
 a46 := jv,
 z46 := iV,
 v46 := gQ,
 t50 := gm,
 a50 := jw,
 z50 := iW,
 v50 := gS,
 t53 := gn,
 a53 := jx,
 z53 := iX,
 v53 := gT,
 t55 := gp,
 a55 := jy,
 z55 := iY,
 v55 := gU,
 t66 := gq,
 a66 := jz,
 z66 := iZ,
 v66 := gV,
 t70 := gr,
 a70 := jA,
 z70 := ja,
 v70 := gW,
 t76 := gu,
 a76 := jB,
 z76 := jb,
 v76 := gX,
 t77 := gv,
 a77 := jC,
 z77 := jc,
 v77 := gY}
def M7 : Go.Shelf.Ren := ⟨fun | 6 => 310 | 8 => 177 | 9 => 332 | 19 => 238 | 20 => 239 | 21 => 345 | 22 => 346 | 23 => 347 | 24 => 348 | 25 => 349 | 26 => 350 | 27 => 351 | 28 => 352 | 29 => 353 | 36 => 360 | 31 => 278 | 32 => 279 | 37 => 361 | 38 => 362 | 39 => 363 | 41 => 366 | n => n, fun | 27 => 261 | 29 => 9 | 3 => 3 | 32 => 232 | 26 => 261 | 0 => 0 | 44 => 284 | 46 => 235 | 4 => 4 | 36 => 277 | 35 => 276 | 41 => 281 | 5 => 5 | 9 => 9 | 53 => 310 | 57 => 314 | 63 => 343 | 64 => 200 | n => n, fun | n => n⟩
theorem NA : Go.Proofs.SlLaysM.n6 Tryz.prog M7 := {
 mixed := by kernel_rfl,
 f6 := ⟨Tryz.f310.name, by decide, Tryz.func310.trans (aR some (by kernel_rfl))⟩,
 f8 := Tryz.func177.trans (aR some (by kernel_rfl)),
 f9 := ⟨Tryz.f332.name, by decide, Tryz.func332.trans (aR some (by kernel_rfl))⟩,
 f19 := Tryz.func238.trans (aR some (by kernel_rfl)),
 f20 := Tryz.func239.trans (aR some (by kernel_rfl)),
 f21 := ⟨Tryz.f345.name, by decide, Tryz.func345.trans (aR some (by kernel_rfl))⟩,
 f22 := ⟨Tryz.f346.name, by decide, Tryz.func346.trans (aR some (by kernel_rfl))⟩,
 f23 := ⟨Tryz.f347.name, by decide, Tryz.func347.trans (aR some (by kernel_rfl))⟩,
 f24 := ⟨Tryz.f348.name, by decide, Tryz.func348.trans (aR some (by kernel_rfl))⟩,
 f25 := ⟨Tryz.f349.name, by decide, Tryz.func349.trans (aR some (by kernel_rfl))⟩,
 f26 := ⟨Tryz.f350.name, by decide, Tryz.func350.trans (aR some (by kernel_rfl))⟩,
 f27 := ⟨Tryz.f351.name, by decide, Tryz.func351.trans (aR some (by kernel_rfl))⟩,
 f28 := ⟨Tryz.f352.name, by decide, Tryz.func352.trans (aR some (by kernel_rfl))⟩,
 f29 := ⟨Tryz.f353.name, by decide, Tryz.func353.trans (aR some (by kernel_rfl))⟩,
 f31 := Tryz.func278.trans (aR some (by kernel_rfl)),
 f32 := Tryz.func279.trans (aR some (by kernel_rfl)),
 f36 := ⟨Tryz.f360.name, by decide, Tryz.func360.trans (aR some (by kernel_rfl))⟩,
 f37 := ⟨Tryz.f361.name, by decide, Tryz.func361.trans (aR some (by kernel_rfl))⟩,
 f38 := ⟨Tryz.f362.name, by decide, Tryz.func362.trans (aR some (by kernel_rfl))⟩,
 f39 := ⟨Tryz.f363.name, by decide, Tryz.func363.trans (aR some (by kernel_rfl))⟩,
 f41 := ⟨Tryz.f366.name, by decide, Tryz.func366.trans (aR some (by kernel_rfl))⟩,
 t0 := fp,
 a0 := iF,
 z0 := gN,
 v0 := fz,
 t3 := iu,
 a3 := jU,
 z3 := jM,
 v3 := iI,
 t4 := fO,
 a4 := jl,
 z4 := iO,
 v4 := gh,
 t5 := iv,
 a5 := jV,
 z5 := jN,
 v5 := iJ,
 t9 := eQ,
 a9 := gC,
 z9 := fP,
 v9 := fb,
 t26 := jd,
 a26 := Tryz.isAgg261,
 z26 := Tryz.sizeOf261,
 v26 := jm,
 t27 := jd,
 a27 := Tryz.isAgg261,
 z27 := Tryz.sizeOf261,
 v27 := jm,
 t29 := eQ,
 a29 := gC,
 z29 := fP,
 v29 := fb,
 t32 := gj,
 a32 := jt,
 z32 := iT,
 v32 := gO,
 t35 := gk,
 a35 := ju,
 z35 := iU,
 v35 := gP,
 t36 := gl,
 a36 := jv,
 z36 := iV,
 v36 := gQ,
 t41 := gm,
 a41 := jw,
 z41 := iW,
 v41 := gS,
 t44 := gn,
 a44 := jx,
 z44 := iX,
 v44 := gT,
 t46 := gp,
 a46 := jy,
 z46 := iY,
 v46 := gU,
 t53 := gq,
 a53 := jz,
 z53 := iZ,
 v53 := gV,
 t57 := gr,
 a57 := jA,
 z57 := ja,
 v57 := gW,
 t63 := gu,
 a63 := jB,
 z63 := jb,
 v63 := gX,
 t64 := gv,
 a64 := jC,
 z64 := jc,
 v64 := gY}
def P6 : Go.Shelf.Ren := ⟨fun | 7 => 283 | 10 => 319 | n => n, fun | 23 => 190 | 26 => 9 | 3 => 4 | 28 => 318 | 0 => 0 | 27 => 317 | 33 => 128 | 4 => 4 | n => n, fun | n => n⟩
theorem QO : Go.Proofs.SlLaysZ.n7 Tryz.prog P6 := {
 mixed := by kernel_rfl,
 f7 := ⟨Tryz.f283.name, by decide, Tryz.func283.trans (aR some (by kernel_rfl))⟩,
 f10 := ⟨Tryz.f319.name, by decide, Tryz.func319.trans (aR some (by kernel_rfl))⟩,
 t0 := fp,
 a0 := iF,
 z0 := gN,
 v0 := fz,
 t4 := fO,
 a4 := jl,
 z4 := iO,
 v4 := gh,
 t23 := Tryz.underlying190,
 a23 := Tryz.isAgg190,
 z23 := Tryz.sizeOf190,
 v23 := Tryz.zeroValue190,
 t26 := eQ,
 a26 := gC,
 z26 := fP,
 v26 := fb,
 t27 := Tryz.underlying317,
 a27 := Tryz.isAgg317,
 z27 := Tryz.sizeOf317,
 v27 := Tryz.zeroValue317,
 t28 := Tryz.underlying318,
 a28 := Tryz.isAgg318,
 z28 := Tryz.sizeOf318,
 v28 := Tryz.zeroValue318,
 t33 := Tryz.underlying128,
 a33 := Tryz.isAgg128,
 z33 := Tryz.sizeOf128,
 v33 := Tryz.zeroValue128}
def Qq : Go.Shelf.Ren := ⟨fun | 6 => 282 | 8 => 318 | 9 => 310 | 11 => 337 | 13 => 177 | 12 => 332 | 23 => 238 | 24 => 239 | 14 => 345 | 15 => 346 | 16 => 347 | 17 => 348 | 18 => 349 | 19 => 350 | 20 => 351 | 21 => 352 | 22 => 353 | 25 => 360 | 26 => 278 | 27 => 279 | 28 => 361 | 29 => 362 | 30 => 363 | 31 => 366 | n => n, fun | 26 => 9 | 28 => 318 | 24 => 261 | 0 => 0 | 3 => 3 | 37 => 232 | 48 => 284 | 50 => 235 | 4 => 4 | 40 => 277 | 39 => 276 | 45 => 281 | 5 => 5 | 9 => 9 | 51 => 310 | 55 => 314 | 57 => 343 | 58 => 200 | 33 => 128 | n => n, fun | n => n⟩
theorem QK : Go.Proofs.SlLaysZ.n6 Tryz.prog Qq := {
 mixed := by kernel_rfl,
 f6 := ⟨Tryz.f282.name, by decide, Tryz.func282.trans (aR some (by kernel_rfl))⟩,
 f8 := ⟨Tryz.f318.name, by decide, Tryz.func318.trans (aR some (by kernel_rfl))⟩,
 f11 := ⟨Tryz.f337.name, by decide, Tryz.func337.trans (aR some (by kernel_rfl))⟩,
 t0 := fp,
 a0 := iF,
 z0 := gN,
 v0 := fz,
 t24 := jd,
 a24 := Tryz.isAgg261,
 z24 := Tryz.sizeOf261,
 v24 := jm,
 t26 := eQ,
 a26 := gC,
 z26 := fP,
 v26 := fb,
 t28 := Tryz.underlying318,
 a28 := Tryz.isAgg318,
 z28 := Tryz.sizeOf318,
 v28 := Tryz.zeroValue318,
 i26 := by kernel_rfl}
def No : Go.Shelf.Ren := ⟨fun | 6 => 220 | 15 => 177 | 14 => 268 | 28 => 238 | 29 => 239 | 20 => 301 | 21 => 302 | 22 => 303 | 23 => 304 | 24 => 305 | 25 => 306 | 26 => 307 | 27 => 308 | 46 => 329 | 47 => 278 | 48 => 279 | 49 => 330 | 50 => 331 | 57 => 344 | n => n, fun | 22 => 215 | 24 => 34 | 25 => 270 | 3 => 3 | 39 => 232 | 0 => 0 | 53 => 284 | 55 => 235 | 4 => 4 | 46 => 277 | 45 => 276 | 50 => 281 | 5 => 5 | 9 => 9 | 66 => 310 | 70 => 314 | 76 => 343 | 77 => 200 | n => n, fun | n => n⟩
theorem R4 : Go.Proofs.SlLaysF.n6 Tryz.prog No := {
 mixed := by kernel_rfl,
 f6 := ⟨Tryz.f220.name, by decide, Tryz.func220.trans (aR some (by kernel_rfl))⟩,
 f14 := ⟨Tryz.f268.name, by decide, Tryz.func268.trans (aR some (by kernel_rfl))⟩,
 f15 := Tryz.func177.trans (aR some (by kernel_rfl)),
 f20 := ⟨Tryz.f301.name, by decide, Tryz.func301.trans (aR some (by kernel_rfl))⟩,
 f21 := ⟨Tryz.f302.name, by decide, Tryz.func302.trans (aR some (by kernel_rfl))⟩,
 f22 := ⟨Tryz.f303.name, by decide, Tryz.func303.trans (aR some (by kernel_rfl))⟩,
 f23 := ⟨Tryz.f304.name, by decide, Tryz.func304.trans (aR some (by kernel_rfl))⟩,
 f24 := ⟨Tryz.f305.name, by decide, Tryz.func305.trans (aR some (by kernel_rfl))⟩,
 f25 := ⟨Tryz.f306.name, by decide, Tryz.func306.trans (aR some (by kernel_rfl))⟩,
 f26 := ⟨Tryz.f307.name, by decide, Tryz.func307.trans (aR some (by kernel_rfl))⟩,
 f27 := ⟨Tryz.f308.name, by decide, Tryz.func308.trans (aR some (by kernel_rfl))⟩,
 f28 := Tryz.func238.trans (aR some (by kernel_rfl)),
 f29 := Tryz.func239.trans (aR some (by kernel_rfl)),
 f46 := ⟨Tryz.f329.name, by decide, Tryz.func329.trans (aR some (by kernel_rfl))⟩,
 f47 := Tryz.func278.trans (aR some (by kernel_rfl)),
 f48 := Tryz.func279.trans (aR some (by kernel_rfl)),
 f49 := ⟨Tryz.f330.name, by decide, Tryz.func330.trans (aR some (by kernel_rfl))⟩,
 f50 := ⟨Tryz.f331.name, by decide, Tryz.func331.trans (aR some (by kernel_rfl))⟩,
 f57 := ⟨Tryz.f344.name, by decide, Tryz.func344.trans (aR some (by kernel_rfl))⟩,
 t0 := fp,
 a0 := iF,
 z0 := gN,
 v0 := fz,
 t3 := iu,
 a3 := jU,
 z3 := jM,
 v3 := iI,
 t4 := fO,
 a4 := jl,
 z4 := iO,
 v4 := gh,
 t5 := iv,
 a5 := jV,
 z5 := jN,
 v5 := iJ,
 t9 := eQ,
 a9 := gC,
 z9 := fP,
 v9 := fb,
 t22 := Tryz.underlying215,
 a22 := Tryz.isAgg215,
 z22 := Tryz.sizeOf215,
 v22 := Tryz.zeroValue215,
 a24 := Tryz.isAgg34,
 z24 := Tryz.sizeOf34,
 t25 := Tryz.underlying270,
 a25 := Tryz.isAgg270,
 z25 := Tryz.sizeOf270,
 v25 := Tryz.zeroValue270,
 t39 := gj,
 a39 := jt,
 z39 := iT,
 v39 := gO,
 t45 := gk,
 a45 := ju,
 z45 := iU,
 v45 := gP,
 t46 := gl,
 a46 := jv,
 z46 := iV,
 v46 := gQ,
 t50 := gm,
 a50 := jw,
 z50 := iW,
 v50 := gS,
 t53 := gn,
 a53 := jx,
 z53 := iX,
 v53 := gT,
 t55 := gp,
 a55 := jy,
 z55 := iY,
 v55 := gU,
 t66 := gq,
 a66 := jz,
 z66 := iZ,
 v66 := gV,
 t70 := gr,
 a70 := jA,
 z70 := ja,
 v70 := gW,
 t76 := gu,
 a76 := jB,
 z76 := jb,
 v76 := gX,
 t77 := gv,
 a77 := jC,
 z77 := jc,
 v77 := gY}
end Go.Proofs.YtklbhegeiijbjaaGreat
namespace Go.Proofs.YtklbhegeiijbjaaGreat
open Go.IntKind renaming wrap → wi0
open Go.RowKit
set_option maxRecDepth 10000
noncomputable section
structure kd where
 kj : ByteArray
 kq : ByteArray
def ki (x : kd) : List Value := [.string x.kj, .string x.kq]
def kG (x y : kd) : Bool := (lK x.kj y.kj) && ((lK x.kq y.kq) && true)
theorem kE {x y : kd} : kG x y = true ↔ x = y := by
 cases x; cases y; simp [kG, mJ]
theorem nw (x : kd) : (ki x).length = 2 := rfl
theorem pk (x : kd) : ∀ u ∈ ki x, u.oneCell' = true := by
 intro u hu
 simp only [ki, aO, dG, fL] at hu
 rcases hu with rfl | rfl <;> rfl
structure ke where
 Kind : Int
 Head : kd
 kR : ByteArray
 B : kd
 C : kd
 lj : ByteArray
def km (x : ke) : List Value := [.int .i64 x.Kind, .string x.Head.kj, .string x.Head.kq, .string x.kR, .string x.B.kj, .string x.B.kq, .string x.C.kj, .string x.C.kq, .string x.lj]
def nr (x y : ke) : Bool := (x.Kind == y.Kind) && ((kG x.Head y.Head) && ((lK x.kR y.kR) && ((kG x.B y.B) && ((kG x.C y.C) && ((lK x.lj y.lj) && true)))))
theorem re {x y : ke} : nr x y = true ↔ x = y := by
 cases x; cases y; simp [nr, mJ, kE]
theorem lV (x : ke) : (km x).length = 9 := rfl
theorem ph (x : ke) : ∀ u ∈ km x, u.oneCell' = true := by
 intro u hu
 simp only [km, aO, dG, fL] at hu
 rcases hu with rfl | rfl | rfl | rfl | rfl | rfl | rfl | rfl | rfl <;> rfl
structure kk where
 kd : kd
 kR : ByteArray
def kD (x : kk) : List Value := [.string x.kd.kj, .string x.kd.kq, .string x.kR]
def nJ (x y : kk) : Bool := (kG x.kd y.kd) && ((lK x.kR y.kR) && true)
theorem nj {x y : kk} : nJ x y = true ↔ x = y := by
 cases x; cases y; simp [nJ, mJ, kE]
theorem oE (x : kk) : (kD x).length = 3 := rfl
theorem zD (x : kk) : ∀ u ∈ kD x, u.oneCell' = true := by
 intro u hu
 simp only [kD, aO, dG, fL] at hu
 rcases hu with rfl | rfl | rfl <;> rfl
structure kW where
 ke : ke
 kk : kk
def lA (x : kW) : List Value := [.int .i64 x.ke.Kind, .string x.ke.Head.kj, .string x.ke.Head.kq, .string x.ke.kR, .string x.ke.B.kj, .string x.ke.B.kq, .string x.ke.C.kj, .string x.ke.C.kq, .string x.ke.lj, .string x.kk.kd.kj, .string x.kk.kd.kq, .string x.kk.kR]
theorem px (x : kW) : (lA x).length = 12 := rfl
theorem wG (x : kW) : ∀ u ∈ lA x, u.oneCell' = true := by
 intro u hu
 simp only [lA, aO, dG, fL] at hu
 rcases hu with rfl | rfl | rfl | rfl | rfl | rfl | rfl | rfl | rfl | rfl | rfl | rfl <;> rfl
structure Qc where
 T9 : Int
 Ua : Int
structure lh where
 e : Int
def mi (x : lh) : List Value := [.int .i64 x.e]
structure Key where
 kR : ByteArray
 Key : List Int
structure Signed where
 ke : ke
 Tag : List Int
structure Formula where
 Op : Int
 K : Int
 kd : kd
 Kids : List Formula
structure ml where
 Signed : Signed
 kv : Formula
structure oZ where
 kd : kd
 kv : Formula
 nv : List ke
structure lD where
 Name : ByteArray
 kZ : List ml
 mu : List oZ
structure Kg where
 kj : lD
 Client : lD
 Formula : Formula
 Q7 : Int
 PV : Qc
 Lv : Int
 PI : Int
 Ni : Int
 Keys : List Key
def oW (a0 : ByteArray) (a : Int) : Option Int :=
 some (xK a0 a)
def rX (a0 : ByteArray) (a : Int) : Option Int :=
 ((oW a0 a).bind fun b => some b)
def vv  : List Int → Option Bool
 | [] => some true
 | c :: a => ((rX (⟨#[97, 98, 99, 100, 101, 102, 103, 104, 105, 106, 107, 108, 109, 110, 111, 112, 113, 114, 115, 116, 117, 118, 119, 120, 121, 122, 48, 49, 50, 51, 52, 53, 54, 55, 56, 57, 45]⟩ : ByteArray) c).bind fun b => (if (decide (b < 0)) then some false else (vv a)))
def Ck (a0 : ByteArray) : Option Bool :=
 ((Dh a0).bind fun a => vv a)
def rB (a0 : ByteArray) : Option Bool :=
 ((if (decide ((a0.size : Int) ≥ 1)) then some (decide ((a0.size : Int) ≤ 16)) else some false).bind fun x2 => ((if x2 then ((AB a0 0).bind fun a => ((rX (⟨#[97, 98, 99, 100, 101, 102, 103, 104, 105, 106, 107, 108, 109, 110, 111, 112, 113, 114, 115, 116, 117, 118, 119, 120, 121, 122]⟩ : ByteArray) (a.toNat : Int)).bind fun c => some (decide (c ≥ 0)))) else some false).bind fun d => ((if d then ((Ck a0).bind fun b => some b) else some false).bind fun g => some g)))
def uM (a0 : List Int) : Option (List Int) :=
 ((mZ 1 ([]) a0).bind fun a => some a)
def pH (a0 : kd) : Option Bool :=
 ((rB a0.kj).bind fun c => ((if c then ((rB a0.kq).bind fun a => some a) else some false).bind fun b => some b))
def nO (a0 a : ByteArray) : Option Int :=
 some (pD a0 a)
def qa (a0 a : ByteArray) : Option Int :=
 ((nO a0 a).bind fun b => some b)
def sQ  : List Int → Option Int
 | [] => some 0
 | a :: b => (if (a != 0) then some a else (sQ b))
def ua (a0 : List Int) : Option Int :=
 sQ a0
def nK (a0 d : kd) : Option Int :=
 ((qa a0.kj d.kj).bind fun a => ((qa a0.kq d.kq).bind fun b => ((ua ([a, b])).bind fun c => some c)))
def rC (a0 : ke) : Option Bool :=
 ((pH a0.Head).bind fun w => (((if (a0.Kind == 1) then ((if w then ((rB a0.kR).bind fun b => some b) else some false).bind fun n => some (Sum.inr (n, (⟨a0.Kind, a0.Head, a0.kR, (⟨zS, zS⟩ : kd), (⟨zS, zS⟩ : kd), zS⟩ : ke)))) else (if (a0.Kind == 2) then ((if w then ((pH a0.B).bind fun c => some c) else some false).bind fun o => some (Sum.inr (o, (⟨a0.Kind, a0.Head, zS, a0.B, (⟨zS, zS⟩ : kd), zS⟩ : ke)))) else (if (a0.Kind == 3) then ((if w then ((pH a0.B).bind fun g => some g) else some false).bind fun p => ((if p then some (lK a0.B.kj a0.Head.kj) else some false).bind fun q => ((if q then ((rB a0.lj).bind fun d => some d) else some false).bind fun r => some (Sum.inr (r, (⟨a0.Kind, a0.Head, zS, a0.B, (⟨zS, zS⟩ : kd), a0.lj⟩ : ke)))))) else (if (a0.Kind == 4) then ((if w then ((pH a0.B).bind fun j => some j) else some false).bind fun t => ((if t then ((pH a0.C).bind fun i => some i) else some false).bind fun u => ((if u then ((nK a0.B a0.C).bind fun h => some (decide (h < 0))) else some false).bind fun v => some (Sum.inr (v, (⟨a0.Kind, a0.Head, zS, a0.B, a0.C, zS⟩ : ke)))))) else some (Sum.inl false))))) : Option (Bool ⊕ (Bool × ke))).bind fun s => match s with | .inl a => some a | .inr (k, l) => ((if k then some (nr l a0) else some false).bind fun m => some m)))
def qx  : Nat → Int → (List Int) → Option (Bool × (List Int))
 | 0, _, _ => none
 | g + 1, a, c => (if (decide (a ≥ 128)) then ((mZ 1 c ([(IntKind.u8.wrap (BitVec.ofInt (IntKind.bits .u8) (IntKind.u8.wrap a) ||| BitVec.ofInt (IntKind.bits .u8) 128).toNat)])).bind fun d => (qx g (Int.fdiv a (2 ^ min (Int.toNat 7) (IntKind.bits .i64))) d)) else ((mZ 1 c ([(IntKind.u8.wrap a)])).bind fun b => some (true, b)))
def ox (a : List Int) (b : Int) : Option (Bool × (List Int)) :=
 (if (decide (b < 0)) then some (false, a) else qx kT b a)
def xT (a b : List Int) : Option (Bool × (List Int)) :=
 (if (decide ((b.length : Int) > 2048)) then some (false, a) else ((ox a (b.length : Int)).bind fun d => ((mZ 1 d.2 b).bind fun c => some (true, c))))
def uu (a : List Int) (h : ByteArray) : Option (Bool × (List Int)) :=
 ((rB h).bind fun i => (((if i then ((Dh h).bind fun d => ((xT a d).bind fun b => some (b.1, b.2))) else some (false, a)) : Option (Bool × (List Int))).bind fun (g, c) => some (g, c)))
def qy (a : List Int) (g : kd) : Option (Bool × (List Int)) :=
 ((pH g).bind fun k => (((if k then ((uu a g.kj).bind fun d => some (d.1, d.2)) else some (false, a)) : Option (Bool × (List Int))).bind fun (i, b) => (((if i then ((uu b g.kq).bind fun c => some (c.1, c.2)) else some (false, b)) : Option (Bool × (List Int))).bind fun (j, h) => some (j, h))))
def uq (a : List Int) : Option (List Int) :=
 ((uM a).bind fun b => some b)
def xh (a0 : ke) : Option (List Int) :=
 ((rC a0).bind fun l => (if (!l) then some [] else ((ox ([]) a0.Kind).bind fun m => ((qy m.2 a0.Head).bind fun a => (((if (a0.Kind == 1) then ((uu a.2 a0.kR).bind fun d => some d.2) else (if (a0.Kind == 2) then ((qy a.2 a0.B).bind fun g => some g.2) else (if (a0.Kind == 3) then ((qy a.2 a0.B).bind fun h => ((uu h.2 a0.lj).bind fun i => some i.2)) else (if (a0.Kind == 4) then ((qy a.2 a0.B).bind fun j => ((qy j.2 a0.C).bind fun k => some k.2)) else some a.2)))) : Option (List Int)).bind fun b => ((uq b).bind fun c => some c))))))
def rV (a0 : List ke) : Option (List ke) :=
 ((mZ 136 ([]) a0).bind fun a => some a)
def pa (f1 : ke → Option Bool) : List ke → Nat → Option Int
 | [], _ => some (-1)
 | c :: a, i35 => ((f1 c).bind fun b => (if b then some (i35 : Int) else (pa f1 a (i35 + 1))))
def uD (a0 : List ke) (f1 : ke → Option Bool) : Option Int :=
 pa f1 a0 0
def nP (f1 : ke → Option Bool) : Nat → (List ke) → Int → Int → Option (List ke)
 | 0, _, _, _ => none
 | n321 + 1, b, a, c => (if (decide (c < (b.length : Int))) then ((((lN b c).bind fun d => ((f1 d).bind fun h => (if (!h) then ((lN b a).bind fun j => some ((b.set (Int.toNat a) d), (wi0 .i64 (a + 1)))) else some (b, a)))) : Option ((List ke) × Int)).bind fun (g, i) => (nP f1 n321 g i (wi0 .i64 (c + 1)))) else ((ot (decide (0 ≤ a) && decide (a ≤ (b.length : Int)))).bind fun _ => ((ot (decide (0 ≤ a) && decide (a ≤ ((nD b (Int.toNat a) (⟨0, (⟨zS, zS⟩ : kd), zS, (⟨zS, zS⟩ : kd), (⟨zS, zS⟩ : kd), zS⟩ : ke)).length : Int)))).bind fun _ => some ((nD b (Int.toNat a) (⟨0, (⟨zS, zS⟩ : kd), zS, (⟨zS, zS⟩ : kd), (⟨zS, zS⟩ : kd), zS⟩ : ke)).take (Int.toNat a)))))
def rp (a0 : List ke) (f1 : ke → Option Bool) : Option (List ke) :=
 ((uD a0 f1).bind fun a => (if (a == (-1)) then some a0 else nP f1 kT a0 a (wi0 .i64 (a + 1))))
def yj (a0 : ke) : Option Bool :=
 ((rC a0).bind fun a => some (!a))
def wX (a0 a : List Int) : Option Int :=
 some (yK a0 a)
def tX (a0 d : ke) : Option Int :=
 ((xh a0).bind fun a => ((xh d).bind fun b => ((wX a b).bind fun c => some c)))
def oD (b : Int) : Nat → (List ke) → Int → Int → Option ((List ke) × Int)
 | 0, _, _, _ => none
 | h + 1, a, c, d => (if (decide (d < ((a.length - (Int.toNat b) : Nat) : Int))) then ((((lN (a.drop (Int.toNat b)) d).bind fun j => ((lN (a.drop (Int.toNat b)) (wi0 .i64 (d - 1))).bind fun k => (if (!(nr j k)) then ((lN (a.drop (Int.toNat b)) d).bind fun l => ((lN a c).bind fun m => some ((a.set (Int.toNat c) l), (wi0 .i64 (c + 1))))) else some (a, c)))) : Option ((List ke) × Int)).bind fun (g, i) => (oD b h g i (wi0 .i64 (d + 1)))) else some (a, c))
def oJ (a0 : List ke) : Nat → Int → Option (List ke)
 | 0, _ => none
 | d + 1, a => (if (decide (a < (a0.length : Int))) then ((lN a0 a).bind fun g => ((lN a0 (wi0 .i64 (a - 1))).bind fun h => (if (nr g h) then ((ot (decide (0 ≤ a) && decide (a ≤ (a0.length : Int)))).bind fun _ => ((oD a kT a0 a 1).bind fun (c, b) => ((ot (decide (0 ≤ b) && decide (b ≤ (c.length : Int)))).bind fun _ => ((ot (decide (0 ≤ b) && decide (b ≤ ((nD c (Int.toNat b) (⟨0, (⟨zS, zS⟩ : kd), zS, (⟨zS, zS⟩ : kd), (⟨zS, zS⟩ : kd), zS⟩ : ke)).length : Int)))).bind fun _ => some ((nD c (Int.toNat b) (⟨0, (⟨zS, zS⟩ : kd), zS, (⟨zS, zS⟩ : kd), (⟨zS, zS⟩ : kd), zS⟩ : ke)).take (Int.toNat b)))))) else (oJ a0 d (wi0 .i64 (a + 1)))))) else some a0)
def sT (a0 : List ke) : Option (List ke) :=
 (if (decide ((a0.length : Int) < 2)) then some a0 else oJ a0 kT 1)
def xx (a0 : List ke) : Option (List ke) :=
 ((rV a0).bind fun d => ((rp d (fun (x : ke) => yj x)).bind fun a => ((xF (fun (x : (ke × ke)) => tX x.1 x.2) a).bind fun b => ((sT b).bind fun c => some c))))
def qo (c : ke) : List ke → Nat → Option Int
 | [], _ => some (-1)
 | b :: a, i46 => (if (nr c b) then some (i46 : Int) else (qo c a (i46 + 1)))
def wN (a0 : List ke) (a : ke) : Option Int :=
 qo a a0 0
def sF (a0 : List ke) (a : ke) : Option Bool :=
 ((wN a0 a).bind fun b => some (decide (b ≥ 0)))
def wc (a0 : List ke) (a : ke) : Option Bool :=
 ((sF a0 a).bind fun b => some b)
def za (a0 : ke) : Option (List kd) :=
 ((rC a0).bind fun g => (if (!g) then some [] else (((if (a0.Kind != 1) then ((mZ 32 ([a0.Head]) ([a0.B])).bind fun d => some d) else some ([a0.Head])) : Option (List kd)).bind fun a => (((if (a0.Kind == 4) then ((mZ 32 a ([a0.C])).bind fun c => some c) else some a) : Option (List kd)).bind fun b => some b))))
def oS (h : ke) (a : List (ByteArray × (List ke))) (d : List ke) : List kd → (List (kd × (List ke))) → Option ((List ke) × (List (kd × (List ke))) × (List (ByteArray × (List ke))))
 | [], b => (if (h.Kind == 3) then ((mZ 136 ((lU lK a h.lj).getD []) ([h])).bind fun j => some (d, b, (nR lK a h.lj j))) else some (d, b, a))
 | c :: g, b => ((mZ 136 ((lU kG b c).getD []) ([h])).bind fun i => (oS h a d g (nR kG b c i)))
def tL (h : List (kd × (List (ByteArray × Bool)))) (a : List ke) (c : List (kd × (List ke))) (b : List (ByteArray × (List ke))) (d : List kk) (k : Int) (i : ke) : Option ((List ke) × (List (kd × (List ke))) × (List (ByteArray × (List ke)))) :=
 ((mZ 136 a ([i])).bind fun j => ((za i).bind fun g => ((ot (decide (0 ≤ 1) && decide (1 ≤ (g.length : Int)))).bind fun _ => oS i b j (g.drop (Int.toNat 1)) c)))
def oe (a : List (kd × (List (ByteArray × Bool)))) (d : List ke) (h : List (kd × (List ke))) (g : List (ByteArray × (List ke))) (b : List kk) (c : Int) (i : kd) (a2 : ByteArray) : Option ((List (kd × (List (ByteArray × Bool)))) × (List kk) × Int) :=
 (if (xH lK ((lU kG a i).getD []) a2 false) then some (a, b, c) else (((if (lU kG a i).isNone then ((Gv kG a i ([])).bind fun j => some j) else some a) : Option (List (kd × (List (ByteArray × Bool))))).bind fun k => ((F8 kG lK k i a2 true).bind fun l => ((mZ 48 b ([(⟨i, a2⟩ : kk)])).bind fun m => some (l, m, (wi0 .i64 (c + 1)))))))
def pd (a0 : List (ByteArray × Bool)) : Option Unit :=
 some ()
def qS (a : List (kd × (List (ByteArray × Bool)))) (b : List ke) (g : List (kd × (List ke))) (c : List (ByteArray × (List ke))) (d : List kk) (i : Int) (j : kd) : Option (List ByteArray) :=
 ((pd ((lU kG a j).getD [])).bind fun k => ((GK ((lU kG a j).getD [])).bind fun h => some h))
def qt (a : List ke) (c : List (kd × (List ke))) (b : List (ByteArray × (List ke))) (a2 : kd) : List ByteArray → (List (kd × (List (ByteArray × Bool)))) → (List kk) → Int → Option ((List (kd × (List (ByteArray × Bool)))) × (List kk) × Int)
 | [], d, g, i => some (d, g, i)
 | k :: j, d, g, i => ((oe d a c b g i a2 k).bind fun h => (qt a c b a2 j h.1 h.2.1 h.2.2))
def uC (g : List (kd × (List (ByteArray × Bool)))) (a : List ke) (d : List (kd × (List ke))) (b : List (ByteArray × (List ke))) (c : List kk) (h : Int) (i a2 : kd) : Option ((List (kd × (List (ByteArray × Bool)))) × (List kk) × Int) :=
 ((qS g a d b c h i).bind fun j => qt a d b a2 j g c h)
def rS (a : List (kd × (List (ByteArray × Bool)))) (c : List ke) (g : List (kd × (List ke))) (d : List (ByteArray × (List ke))) (b : List kk) (h : Int) (i : ke) (a2 : kk) : Option ((List (kd × (List (ByteArray × Bool)))) × (List kk) × Int) :=
 (if (i.Kind == 2) then ((oe a c g d b h i.Head a2.kR).bind fun l => some (l.1, l.2.1, l.2.2)) else (if (i.Kind == 3) then ((uC a c g d b h (⟨a2.kR, i.lj⟩ : kd) i.Head).bind fun j => some (j.1, j.2.1, j.2.2)) else (if (i.Kind == 4) then ((if (xH lK ((lU kG a i.B).getD []) a2.kR false) then some (xH lK ((lU kG a i.C).getD []) a2.kR false) else some false).bind fun m => (if m then ((oe a c g d b h i.Head a2.kR).bind fun k => some (k.1, k.2.1, k.2.2)) else some (a, b, h))) else some (a, b, h))))
def pC (a : List ke) (c : List (kd × (List ke))) (b : List (ByteArray × (List ke))) (l : ke) : List ByteArray → (List (kd × (List (ByteArray × Bool)))) → (List kk) → Int → Option ((List (kd × (List (ByteArray × Bool)))) × (List kk) × Int)
 | [], d, g, i => some (d, g, i)
 | k :: j, d, g, i => ((rS d a c b g i l (⟨l.B, k⟩ : kk)).bind fun h => (pC a c b l j h.1 h.2.1 h.2.2))
def sR (g : List (kd × (List (ByteArray × Bool)))) (a : List ke) (d : List (kd × (List ke))) (b : List (ByteArray × (List ke))) (c : List kk) (h : Int) (i : ke) : Option ((List (kd × (List (ByteArray × Bool)))) × (List kk) × Int) :=
 (if (i.Kind == 1) then ((oe g a d b c h i.Head i.kR).bind fun k => some (k.1, k.2.1, k.2.2)) else ((qS g a d b c h i.B).bind fun j => pC a d b i j g c h))
def om (h : kk) (a : List ke) (c : List (kd × (List ke))) (b : List (ByteArray × (List ke))) : List ke → (List (kd × (List (ByteArray × Bool)))) → (List kk) → Int → Option ((List (kd × (List (ByteArray × Bool)))) × (List kk) × Int)
 | [], d, g, i => some (d, g, i)
 | l :: k, d, g, i => (if (xH lK ((lU kG d l.B).getD []) h.kd.kj false) then ((oe d a c b g i l.Head h.kR).bind fun j => (om h a c b k j.1 j.2.1 j.2.2)) else (om h a c b k d g i))
def pp (a : List ke) (c : List (kd × (List ke))) (b : List (ByteArray × (List ke))) (j : kk) : List ke → (List (kd × (List (ByteArray × Bool)))) → (List kk) → Int → Option ((List (kd × (List (ByteArray × Bool)))) × (List kk) × Int)
 | [], d, g, i => some (d, g, i)
 | l :: k, d, g, i => ((rS d a c b g i l j).bind fun h => (pp a c b j k h.1 h.2.1 h.2.2))
def nH (c : List ke) (b : List (kd × (List ke))) (a : List (ByteArray × (List ke))) : Nat → (List (kd × (List (ByteArray × Bool)))) → (List kk) → Int → Option ((List (kd × (List (ByteArray × Bool)))) × (List kk) × Int)
 | 0, _, _, _ => none
 | n + 1, h, d, i => (if (decide ((d.length : Int) > 0)) then ((lN d 0).bind fun g => ((ot (decide (0 ≤ 1) && decide (1 ≤ (d.length : Int)))).bind fun _ => ((pp c b a g ((lU kG b g.kd).getD []) h (d.drop (Int.toNat 1)) i).bind fun (j, k, o) => ((om g c b a ((lU lK a g.kd.kq).getD []) j k o).bind fun (l, m, p) => (nH c b a n l m p))))) else some (h, d, i))
def uY (g : List (kd × (List (ByteArray × Bool)))) (a : List ke) (d : List (kd × (List ke))) (b : List (ByteArray × (List ke))) (c : List kk) (h : Int) : Option ((List (kd × (List (ByteArray × Bool)))) × (List kk) × Int) :=
 nH a d b kT g c h
def oh (l : Int) : List ke → (List (kd × (List (ByteArray × Bool)))) → (List ke) → (List (kd × (List ke))) → (List (ByteArray × (List ke))) → (List kk) → Int → Option (Int × (List (kd × (List (ByteArray × Bool)))) × (List ke) × (List (kd × (List ke))) × (List (ByteArray × (List ke))) × (List kk) × Int)
 | [], c, a, d, g, h, i => ((uY c a d g h i).bind fun j => some ((wi0 .i64 (j.2.2 - l)), j.1, a, d, g, j.2.1, j.2.2))
 | k :: n, c, a, d, g, h, i => ((rC k).bind fun o => ((if o then ((wc a k).bind fun p => some (!p)) else some false).bind fun q => (if q then ((tL c a d g h i k).bind fun b => ((sR c b.1 b.2.1 b.2.2 h i k).bind fun m => (oh l n m.1 b.1 b.2.1 b.2.2 m.2.1 m.2.2))) else (oh l n c a d g h i))))
def uB (g : List (kd × (List (ByteArray × Bool)))) (a : List ke) (d : List (kd × (List ke))) (b : List (ByteArray × (List ke))) (c : List kk) (h : Int) (i : List ke) : Option (Int × (List (kd × (List (ByteArray × Bool)))) × (List ke) × (List (kd × (List ke))) × (List (ByteArray × (List ke))) × (List kk) × Int) :=
 oh h i g a d b c h
def xr (a0 : List ke) : Option ((List (kd × (List (ByteArray × Bool)))) × (List ke) × (List (kd × (List ke))) × (List (ByteArray × (List ke))) × (List kk) × Int) :=
 ((uB ([]) ([]) ([]) ([]) ([]) 0 a0).bind fun a => some (a.2.1, a.2.2.1, a.2.2.2.1, a.2.2.2.2.1, a.2.2.2.2.2.1, a.2.2.2.2.2.2))
def qz (a0 d : kk) : Option Int :=
 ((nK a0.kd d.kd).bind fun a => ((qa a0.kR d.kR).bind fun b => ((ua ([a, b])).bind fun c => some c)))
def wM (c : List (kd × (List (ByteArray × Bool)))) (d : List ke) (i : List (kd × (List ke))) (g : List (ByteArray × (List ke))) (h : List kk) (k : Int) : Option (List kk) :=
 ((NX 48 (fun (a : kd) (b : ByteArray) => (⟨a, b⟩ : kk)) c).bind fun l => EQ l (fun j => ((xF (fun (x : (kk × kk)) => qz x.1 x.2) j).bind fun m => some m)))
def um (a : List (kd × (List (ByteArray × Bool)))) (b : List ke) (g : List (kd × (List ke))) (c : List (ByteArray × (List ke))) (d : List kk) (h : Int) (i : kd) (a2 : ByteArray) : Option Bool :=
 some (xH lK ((lU kG a i).getD []) a2 false)
def rZ  : List ke → Int → Option Int
 | [], b => some b
 | a :: c, b => (rZ c (wi0 .i64 (b + (wi0 .i64 ((wi0 .i64 ((wi0 .i64 ((wi0 .i64 ((wi0 .i64 ((wi0 .i64 ((wi0 .i64 ((wi0 .i64 (20 + (a.Head.kj.size : Int))) + (a.Head.kq.size : Int))) + (a.kR.size : Int))) + (a.B.kj.size : Int))) + (a.B.kq.size : Int))) + (a.C.kj.size : Int))) + (a.C.kq.size : Int))) + (a.lj.size : Int))))))
def wi (a0 : List ke) : Option Int :=
 rZ a0 0
def ul  : List Signed → Int → Option Int
 | [], a => some a
 | b :: c, a => ((wi ([b.ke])).bind fun d => (ul c (wi0 .i64 (a + (wi0 .i64 (d + (b.Tag.length : Int)))))))
def vV (g : List Signed) : List Key → Int → Option Int
 | [], a => ((ul g a).bind fun b => some b)
 | c :: d, a => (vV g d (wi0 .i64 (a + (wi0 .i64 ((wi0 .i64 (10 + (c.kR.size : Int))) + (c.Key.length : Int))))))
def yv (a0 : List Key) (a : List Signed) : Option Int :=
 vV a a0 0
def tY (a0 : ByteArray) : Nat → Int → Option Bool
 | 0, _ => none
 | c + 1, b => (if (decide (b < (a0.size : Int))) then ((AB a0 b).bind fun a => ((if (decide ((a.toNat : Int) < 97)) then some true else some (decide ((a.toNat : Int) > 122))).bind fun d => ((if d then ((if (decide ((a.toNat : Int) < 48)) then some true else some (decide ((a.toNat : Int) > 57))).bind fun i => some i) else some false).bind fun g => ((if g then some ((a.toNat : Int) != 45) else some false).bind fun h => (if h then some false else (tY a0 c (wi0 .i64 (b + 1)))))))) else some true)
def tj (a0 : ByteArray) : Option Bool :=
 ((if (lK a0 zS) then some true else some (decide ((a0.size : Int) > 16))).bind fun x2 => ((if x2 then some true else ((AB a0 0).bind fun b => some (decide ((b.toNat : Int) < 97)))).bind fun c => ((if c then some true else ((AB a0 0).bind fun a => some (decide ((a.toNat : Int) > 122)))).bind fun d => (if d then some false else tY a0 kT 0))))
def wk (a0 : kd) : Option Bool :=
 ((tj a0.kj).bind fun c => ((if c then ((tj a0.kq).bind fun a => some a) else some false).bind fun b => some b))
def ze (a0 a : kd) : Option Bool :=
 ((if (pV a0.kj a.kj) then some true else ((if (lK a0.kj a.kj) then some (pV a0.kq a.kq) else some false).bind fun c => some c)).bind fun b => some b)
def yr (a0 : ke) : Option Bool :=
 ((wk a0.Head).bind fun r => (if (!r) then some false else (if (a0.Kind == 1) then ((tj a0.kR).bind fun h => ((if h then some (kG a0.B (⟨zS, zS⟩ : kd)) else some false).bind fun j => ((if j then some (kG a0.C (⟨zS, zS⟩ : kd)) else some false).bind fun k => ((if k then some (lK a0.lj zS) else some false).bind fun l => some l)))) else ((if (!(lK a0.kR zS)) then some true else ((wk a0.B).bind fun c => some (!c))).bind fun m => (if m then some false else (if (a0.Kind == 2) then ((if (kG a0.C (⟨zS, zS⟩ : kd)) then some (lK a0.lj zS) else some false).bind fun n => some n) else (if (a0.Kind == 3) then ((if (kG a0.C (⟨zS, zS⟩ : kd)) then some (lK a0.B.kj a0.Head.kj) else some false).bind fun o => ((if o then ((tj a0.lj).bind fun i => some i) else some false).bind fun p => some p)) else ((if (a0.Kind == 4) then some (lK a0.lj zS) else some false).bind fun q => ((if q then ((wk a0.C).bind fun b => some b) else some false).bind fun d => ((if d then ((ze a0.B a0.C).bind fun a => some a) else some false).bind fun g => some g))))))))))
def xS  : Nat → Int → ByteArray → Option ByteArray
 | 0, _, _ => none
 | n45 + 1, a, b => (if (decide (a ≥ 128)) then ((Bl b (LU ([(IntKind.u8.wrap (wi0 .i64 (128 + (Int.tmod a 128))))]))).bind fun c => (xS n45 (wi0 .i64 (Int.tdiv a 128)) c)) else ((Bl b (LU ([(IntKind.u8.wrap a)]))).bind fun d => some d))
def xL (a0 : Int) : Option ByteArray :=
 xS kT a0 zS
def vz (a0 : ByteArray) : Option ByteArray :=
 ((xL (a0.size : Int)).bind fun a => ((Bl a a0).bind fun b => some b))
def wu (a0 : kd) : Option ByteArray :=
 ((vz a0.kj).bind fun a => ((vz a0.kq).bind fun b => ((Bl a b).bind fun c => some c)))
def D2 (a0 : ke) : Option ByteArray :=
 ((xL a0.Kind).bind fun d => ((wu a0.Head).bind fun g => ((Bl d g).bind fun a => (if (a0.Kind == 1) then ((vz a0.kR).bind fun h => ((Bl a h).bind fun l => some l)) else ((wu a0.B).bind fun i => ((Bl a i).bind fun b => (((if (a0.Kind == 3) then ((vz a0.lj).bind fun k => ((Bl b k).bind fun n => some n)) else some b) : Option ByteArray).bind fun c => (((if (a0.Kind == 4) then ((wu a0.C).bind fun j => ((Bl c j).bind fun m => some m)) else some c) : Option ByteArray).bind fun o => some o))))))))
def yi (a0 : ke) : Option ByteArray :=
 ((yr a0).bind fun a => (if (!a) then some zS else ((D2 a0).bind fun b => some b)))
def uT (a0 c : ke) : Option Int :=
 ((yi a0).bind fun a => ((yi c).bind fun b => (if (pV a b) then some (-1) else (if (!(pV a b || lK a b)) then some 1 else some 0))))
def tT (a : List ke) : List ke → Bool → ke → Option (Bool × ke)
 | [], c, d => some (c, d)
 | b :: g, c, d => ((yr b).bind fun h => ((if h then ((if ((a.length : Int) == 0) then some true else ((lN a (wi0 .i64 ((a.length : Int) - 1))).bind fun o => ((uT o b).bind fun j => some (decide (j < 0))))).bind fun n => some n) else some false).bind fun k => ((if k then ((if (!c) then some true else ((uT b d).bind fun i => some (decide (i < 0)))).bind fun m => some m) else some false).bind fun l => (if l then (tT a g true b) else (tT a g c d)))))
def xD (a0 : List ke) : Nat → (List ke) → Option (List ke)
 | 0, _ => none
 | c + 1, a => ((tT a a0 false (⟨0, (⟨zS, zS⟩ : kd), zS, (⟨zS, zS⟩ : kd), (⟨zS, zS⟩ : kd), zS⟩ : ke)).bind fun (d, g) => (if (!d) then some a else ((mZ 136 a ([g])).bind fun b => (xD a0 c b))))
def FW (a0 : List ke) : Option (List ke) :=
 xD a0 kT ([])
def uS (d : List ke) : List ke → Nat → Option Bool
 | [], _ => some true
 | c :: b, i90 => ((lN d (i90 : Int)).bind fun a => (if (!(nr c a)) then some false else (uS d b (i90 + 1))))
def uh (a0 a : List ke) : Option Bool :=
 (if ((a0.length : Int) != (a.length : Int)) then some false else uS a a0 0)
def tV (a : List ByteArray) : List ByteArray → ByteArray → Option ByteArray
 | [], c => some c
 | b :: d, c => ((tj b).bind fun h => ((if h then ((if ((a.length : Int) == 0) then some true else ((lN a (wi0 .i64 ((a.length : Int) - 1))).bind fun g => some (!(pV b g || lK b g)))).bind fun l => some l) else some false).bind fun i => ((if i then ((if (lK c zS) then some true else some (pV b c)).bind fun k => some k) else some false).bind fun j => (if j then (tV a d b) else (tV a d c)))))
def xJ (a0 : List ByteArray) : Nat → (List ByteArray) → Option (List ByteArray)
 | 0, _ => none
 | d + 1, a => ((tV a a0 zS).bind fun b => (if (lK b zS) then some a else ((mZ 16 a ([b])).bind fun c => (xJ a0 d c))))
def Co (a0 : List ByteArray) : Option (List ByteArray) :=
 xJ a0 kT ([])
def uy  : List ke → (List ByteArray) → Option (List ByteArray)
 | [], b => ((Co b).bind fun d => some d)
 | a :: g, b => ((mZ 16 b ([a.kR, a.Head.kj, a.B.kj, a.C.kj])).bind fun c => (uy g c))
def Aq (a0 : List ke) : Option (List ByteArray) :=
 uy a0 ([])
def yg (d : kd) (a2 : ByteArray) : List kk → Option Bool
 | [] => some false
 | b :: c => ((if (kG b.kd d) then some (lK b.kR a2) else some false).bind fun a => (if a then some true else (yg d a2 c)))
def vU (a0 : List kk) (a : kd) (a2 : ByteArray) : Option Bool :=
 yg a a2 a0
def wO (a0 : List kk) (h : ke) (a3 : ByteArray) : List ByteArray → Option Bool
 | [] => some false
 | a :: b => ((vU a0 h.B a).bind fun c => ((if c then ((vU a0 (⟨a, h.lj⟩ : kd) a3).bind fun d => some d) else some false).bind fun g => (if g then some true else (wO a0 h a3 b))))
def Bu (a0 : List kk) (a : ke) (a2 : List ByteArray) (a3 : ByteArray) : Option Bool :=
 (if (a.Kind == 1) then some (lK a.kR a3) else (if (a.Kind == 2) then ((vU a0 a.B a3).bind fun d => some d) else (if (a.Kind == 4) then ((vU a0 a.B a3).bind fun g => ((if g then ((vU a0 a.C a3).bind fun b => some b) else some false).bind fun c => some c)) else wO a0 a a3 a2)))
def vo (a0 a : kk) : Option Bool :=
 ((ze a0.kd a.kd).bind fun d => ((if d then some true else ((if (kG a0.kd a.kd) then some (pV a0.kR a.kR) else some false).bind fun c => some c)).bind fun b => some b))
def qb (b a0 : List kk) : List kk → Nat → Int → Option Int
 | [], _, a => some a
 | g :: d, c, a => ((if ((b.length : Int) == 0) then some true else ((lN b (wi0 .i64 ((b.length : Int) - 1))).bind fun n => ((vo n g).bind fun i => some i))).bind fun j => ((if j then ((if (decide (a < 0)) then some true else ((lN a0 a).bind fun m => ((vo g m).bind fun h => some h))).bind fun l => some l) else some false).bind fun k => (if k then (qb b a0 d (c + 1) (c : Int)) else (qb b a0 d (c + 1) a))))
def pX (a0 : List kk) : List kk → (List kk) → Option (List kk)
 | [], a => some a
 | h :: c, a => ((qb a a0 a0 0 (-1)).bind fun b => (if (decide (b ≥ 0)) then ((lN a0 b).bind fun g => ((mZ 48 a ([g])).bind fun d => (pX a0 c d))) else (pX a0 c a)))
def CY (a0 : List kk) : Option (List kk) :=
 pX a0 a0 ([])
def wx (b : ke) (l : List ByteArray) : List ByteArray → (List kk) → Bool → Option ((List kk) × Bool)
 | [], a, d => some (a, d)
 | c :: g, a, d => ((vU a b.Head c).bind fun i => ((if (!i) then ((Bu a b l c).bind fun j => some j) else some false).bind fun k => (if k then ((mZ 48 a ([(⟨b.Head, c⟩ : kk)])).bind fun h => (wx b l g h true)) else (wx b l g a d))))
def yu (i : List ByteArray) : List ke → (List kk) → Bool → Option ((List kk) × Bool)
 | [], a, b => some (a, b)
 | g :: c, a, b => ((wx g i i a b).bind fun (d, h) => (yu i c d h))
def yl (h : List ByteArray) (i : List ke) : Nat → (List kk) → Option (List kk)
 | 0, _ => none
 | b + 1, g => ((yu h i g false).bind fun (a, d) => (if (!d) then ((CY a).bind fun c => some c) else (yl h i b a)))
def AN (a0 : List ke) : Option (List kk) :=
 ((FW a0).bind fun b => ((Aq b).bind fun a => yl a b kT ([])))
def nY (b : Int) : Nat → (List ByteArray) → Int → Int → Option ((List ByteArray) × Int)
 | 0, _, _, _ => none
 | h + 1, a, c, d => (if (decide (d < ((a.length - (Int.toNat b) : Nat) : Int))) then ((((lN (a.drop (Int.toNat b)) d).bind fun j => ((lN (a.drop (Int.toNat b)) (wi0 .i64 (d - 1))).bind fun k => (if (!(lK j k)) then ((lN (a.drop (Int.toNat b)) d).bind fun l => ((lN a c).bind fun m => some ((a.set (Int.toNat c) l), (wi0 .i64 (c + 1))))) else some (a, c)))) : Option ((List ByteArray) × Int)).bind fun (g, i) => (nY b h g i (wi0 .i64 (d + 1)))) else some (a, c))
def nW (a0 : List ByteArray) : Nat → Int → Option (List ByteArray)
 | 0, _ => none
 | d + 1, a => (if (decide (a < (a0.length : Int))) then ((lN a0 a).bind fun g => ((lN a0 (wi0 .i64 (a - 1))).bind fun h => (if (lK g h) then ((ot (decide (0 ≤ a) && decide (a ≤ (a0.length : Int)))).bind fun _ => ((nY a kT a0 a 1).bind fun (c, b) => ((ot (decide (0 ≤ b) && decide (b ≤ (c.length : Int)))).bind fun _ => ((ot (decide (0 ≤ b) && decide (b ≤ ((nD c (Int.toNat b) zS).length : Int)))).bind fun _ => some ((nD c (Int.toNat b) zS).take (Int.toNat b)))))) else (nW a0 d (wi0 .i64 (a + 1)))))) else some a0)
def pS (a0 : List ByteArray) : Option (List ByteArray) :=
 (if (decide ((a0.length : Int) < 2)) then some a0 else nW a0 kT 1)
def tf  : List ByteArray → (List ByteArray) → Option (List ByteArray)
 | [], a => ((Fh a).bind fun g => ((pS g).bind fun h => some h))
 | i :: b, a => ((rB i).bind fun d => (if d then ((mZ 16 a ([i])).bind fun c => (tf b c)) else (tf b a)))
def xG (a0 : List ByteArray) : Option (List ByteArray) :=
 tf a0 ([])
def sk  : List ke → (List ByteArray) → Option (List ByteArray)
 | [], b => ((xG b).bind fun d => some d)
 | a :: g, b => ((mZ 16 b ([a.kR, a.Head.kj, a.B.kj, a.C.kj])).bind fun c => (sk g c))
def yn (a0 : List ke) : Option (List ByteArray) :=
 sk a0 ([])
def oz (f1 : ByteArray → Option Bool) : List ByteArray → Nat → Option Int
 | [], _ => some (-1)
 | c :: a, i35 => ((f1 c).bind fun b => (if b then some (i35 : Int) else (oz f1 a (i35 + 1))))
def tJ (a0 : List ByteArray) (f1 : ByteArray → Option Bool) : Option Int :=
 oz f1 a0 0
def sb (a0 : List ByteArray) (f1 : ByteArray → Option Bool) : Option Bool :=
 ((tJ a0 f1).bind fun a => some (decide (a ≥ 0)))
def tD (a0 : ByteArray) (a : (kd × ByteArray) → Option Bool) (c1 : ke) (c2 : ByteArray) : Option Bool :=
 ((a (c1.B, a0)).bind fun d => ((if d then ((a ((⟨a0, c1.lj⟩ : kd), c2)).bind fun b => some b) else some false).bind fun c => some c))
def xv (a0 : ke) (f1 : (kd × ByteArray) → Option Bool) (a2 : List ByteArray) (a3 : ByteArray) : Option Bool :=
 (if (a0.Kind == 1) then some (lK a0.kR a3) else (if (a0.Kind == 2) then ((f1 (a0.B, a3)).bind fun a => some a) else (if (a0.Kind == 4) then ((f1 (a0.B, a3)).bind fun b => ((if b then ((f1 (a0.C, a3)).bind fun c => some c) else some false).bind fun g => some g)) else ((sb a2 (fun (x : ByteArray) => tD x f1 a0 a3)).bind fun d => some d))))
def qJ (a0 : ke) (f1 : (kd × ByteArray) → Option Bool) (d : List ByteArray) : List ByteArray → (List kk) → Option (List kk)
 | [], a => some a
 | c :: b, a => ((xv a0 f1 d c).bind fun h => (if h then ((mZ 48 a ([(⟨a0.Head, c⟩ : kk)])).bind fun g => (qJ a0 f1 d b g)) else (qJ a0 f1 d b a)))
def uH (a0 : ke) (f1 : (kd × ByteArray) → Option Bool) (a2 : List ByteArray) : Option (List kk) :=
 ((rC a0).bind fun c => ((if (!c) then some true else some false).bind fun x7 => (if x7 then some [] else ((xG a2).bind fun a => (((if (a0.Kind == 1) then some ([a0.kR]) else some a) : Option (List ByteArray)).bind fun b => qJ a0 f1 a b ([]))))))
def ud (a0 : kd) (a : ByteArray) (b : List (kk × Bool)) : Option Bool :=
 some (xH nJ b (⟨a0, a⟩ : kk) false)
def pG (d : ke) (i : kk) : List kk → (List kW) → (List (kk × Bool)) → Option ((((List kW) × Bool) ⊕ ((List kW) × (List (kk × Bool)))) ⊕ ((List kW) × (List (kk × Bool))))
 | [], b, a => some (Sum.inr (b, a))
 | c :: g, b, a => (if (xH nJ a c false) then (pG d i g b a) else ((mZ 184 b ([(⟨d, c⟩ : kW)])).bind fun h => (if (nJ c i) then some (Sum.inl (Sum.inl (h, true))) else (pG d i g h (nR nJ a c true)))))
def qG (k : List ByteArray) (l : kk) : List ke → (List kW) → (List (kk × Bool)) → Option (((List kW) × Bool) ⊕ ((List kW) × (List (kk × Bool))))
 | [], b, a => some (Sum.inr (b, a))
 | c :: d, b, a => ((uH c (fun (x : (kd × ByteArray)) => ud x.1 x.2 a) k).bind fun j => ((pG c l j b a).bind fun s => match s with | .inl i => some i | .inr (g, h) => (qG k l d g h)))
def qI (j : List ByteArray) (k : kk) (l : List ke) : Nat → (List kW) → Int → (List (kk × Bool)) → Option ((List kW) × Bool)
 | 0, _, _, _ => none
 | g + 1, a, i, b => (if (decide (i < (a.length : Int))) then ((qG j k l a b).bind fun s => match s with | .inl h => some h | .inr (c, d) => (qI j k l g c (a.length : Int) d)) else some ([], false))
def wq (a0 : List ke) (b : kk) : Option ((List kW) × Bool) :=
 ((xx a0).bind fun c => ((yn a0).bind fun a => qI a b c kT ([]) (-1) ([])))
def sh  : List kW → (List kk) → Option (List kk)
 | [], a => some a
 | d :: c, a => ((mZ 48 a ([d.kk])).bind fun b => (sh c b))
def wm (a0 : List kW) : Option (List kk) :=
 sh a0 ([])
def qD (c : kk) : List kk → Nat → Option Int
 | [], _ => some (-1)
 | b :: a, i46 => (if (nJ c b) then some (i46 : Int) else (qD c a (i46 + 1)))
def wL (a0 : List kk) (a : kk) : Option Int :=
 qD a a0 0
def sw (a0 : List kk) (a : kk) : Option Bool :=
 ((wL a0 a).bind fun b => some (decide (b ≥ 0)))
def pc (c : kk) : List kk → Nat → Option Int
 | [], _ => some (-1)
 | b :: a, i46 => (if (nJ c b) then some (i46 : Int) else (pc c a (i46 + 1)))
def uF (a0 : List kk) (a : kk) : Option Int :=
 pc a a0 0
def qF (a0 : List kk) (a : kk) : Option Bool :=
 ((uF a0 a).bind fun b => some (decide (b ≥ 0)))
def sd (a0 : List kk) (a : kd) (a2 : ByteArray) : Option Bool :=
 ((qF a0 (⟨a, a2⟩ : kk)).bind fun b => some b)
def nZ (f1 : kk → Option Bool) : List kk → Nat → Option Int
 | [], _ => some (-1)
 | c :: a, i35 => ((f1 c).bind fun b => (if b then some (i35 : Int) else (nZ f1 a (i35 + 1))))
def sJ (a0 : List kk) (f1 : kk → Option Bool) : Option Int :=
 nZ f1 a0 0
def po (a0 : List kk) (f1 : kk → Option Bool) : Option Bool :=
 ((sJ a0 f1).bind fun a => some (decide (a ≥ 0)))
def sX (a0 : kk) (b : kd) (c1 : List kk) (c2 c : ByteArray) : Option Bool :=
 ((if (kG a0.kd b) then ((sd c1 (⟨a0.kR, c2⟩ : kd) c).bind fun a => some a) else some false).bind fun x7 => some x7)
def xi (a0 : List kk) (b : kd) (a2 a3 : ByteArray) : Option Bool :=
 ((po a0 (fun (x : kk) => sX x b a0 a2 a3)).bind fun a => some a)
def uV (a0 : kW) (a : List kk) : Option Bool :=
 ((rC a0.ke).bind fun b => ((if (!b) then some true else some (!(kG a0.kk.kd a0.ke.Head))).bind fun i => (if i then some false else (if (a0.ke.Kind == 1) then some (lK a0.ke.kR a0.kk.kR) else (if (a0.ke.Kind == 2) then ((sd a a0.ke.B a0.kk.kR).bind fun c => some c) else (if (a0.ke.Kind == 3) then ((xi a a0.ke.B a0.ke.lj a0.kk.kR).bind fun d => some d) else ((sd a a0.ke.B a0.kk.kR).bind fun g => ((if g then ((sd a a0.ke.C a0.kk.kR).bind fun h => some h) else some false).bind fun j => some j))))))))
def rI (c : List kk) : List kW → Nat → Option Bool
 | [], _ => some true
 | d :: a, i98 => ((ot (decide (0 ≤ (i98 : Int)) && decide ((i98 : Int) ≤ (c.length : Int)))).bind fun _ => ((uV d (c.take (Int.toNat (i98 : Int)))).bind fun b => (if (!b) then some false else (rI c a (i98 + 1)))))
def vu (a0 : List kW) : Option Bool :=
 ((wm a0).bind fun a => rI a a0 0)
def qn (a0 : List kW) : Option (List kW) :=
 ((mZ 184 ([]) a0).bind fun a => some a)
def rk (a0 : List kW) (a a2 : Int) : Option (List kW) :=
 ((ot (decide (0 ≤ a ∧ a ≤ a2 ∧ a2 ≤ (a0.length : Int) ∧ (a0.length : Int) ≤ (a0.length : Int)))).bind fun _ => (if (a == a2) then some a0 else ((ot (decide (0 ≤ a) && decide (a ≤ (a0.length : Int)))).bind fun _ => ((ot (decide (0 ≤ a2) && decide (a2 ≤ (a0.length : Int)))).bind fun _ => ((ot (decide ((Int.toNat a) ≤ (Int.toNat a2) ∧ (Int.toNat a2) ≤ a0.length))).bind fun b => ((ot (decide (0 ≤ ((a0.take (Int.toNat a) ++ a0.drop (Int.toNat a2)).length : Int) ∧ ((a0.take (Int.toNat a) ++ a0.drop (Int.toNat a2)).length : Int) ≤ (a0.length : Int) ∧ (a0.length : Int) = ((Ay a0 (Int.toNat a) (Int.toNat a2)).length : Int) ∧ ((a0.take (Int.toNat a) ++ a0.drop (Int.toNat a2)).length : Int) = ((a0.take (Int.toNat a) ++ a0.drop (Int.toNat a2)).length : Int)))).bind fun _ => some ((nD (Ay a0 (Int.toNat a) (Int.toNat a2)) (Int.toNat ((a0.take (Int.toNat a) ++ a0.drop (Int.toNat a2)).length : Int)) (⟨(⟨0, (⟨zS, zS⟩ : kd), zS, (⟨zS, zS⟩ : kd), (⟨zS, zS⟩ : kd), zS⟩ : ke), (⟨(⟨zS, zS⟩ : kd), zS⟩ : kk)⟩ : kW)).take (a0.take (Int.toNat a) ++ a0.drop (Int.toNat a2)).length)))))))
def sf (a0 : List kW) : Nat → Int → Option (Bool ⊕ Unit)
 | 0, _ => none
 | b + 1, a => (if (decide (a < (if 0 > (wi0 .i64 ((a0.length : Int) - 1)) then 0 else (wi0 .i64 ((a0.length : Int) - 1))))) then ((qn a0).bind fun c => ((rk c a (wi0 .i64 (a + 1))).bind fun d => ((vu d).bind fun g => (if g then some (Sum.inl false) else (sf a0 b (wi0 .i64 (a + 1))))))) else some (Sum.inr ()))
def so (h : List kk) (a0 : List kW) : List kk → Nat → Option Bool
 | [], _ => ((vu a0).bind fun d => (if (!d) then some false else ((sf a0 kT 0).bind fun s => match s with | .inl b => some b | .inr _ => some true)))
 | g :: a, i100 => ((ot (decide (0 ≤ (i100 : Int)) && decide ((i100 : Int) ≤ (h.length : Int)))).bind fun _ => ((sw (h.take (Int.toNat (i100 : Int))) g).bind fun c => (if c then some false else (so h a0 a (i100 + 1)))))
def yf (a0 : List kW) : Option Bool :=
 ((wm a0).bind fun a => so a a0 a 0)
def rG  : List kW → (List kk) → Option Bool
 | [], a => some true
 | d :: g, a => ((uV d a).bind fun c => (if (!c) then some false else ((mZ 48 a ([d.kk])).bind fun b => (rG g b))))
def xA (a0 : List kW) : Option Bool :=
 rG a0 ([])
def oV  : Nat → (List kW) → Int → Option (List kW)
 | 0, _, _ => none
 | g + 1, b, a => (if (decide (a ≥ 0)) then ((((qn b).bind fun h => ((rk h a (wi0 .i64 (a + 1))).bind fun c => ((xA c).bind fun i => (if i then some c else some b)))) : Option (List kW)).bind fun d => (oV g d (wi0 .i64 (a - 1)))) else some b)
def pP  : Nat → (List kW) → Option (List kW)
 | 0, _ => none
 | c + 1, a => ((yf a).bind fun d => (if (!d) then ((oV kT a (wi0 .i64 ((a.length : Int) - 2))).bind fun b => (pP c b)) else some a))
def vl (a0 : List kW) : Option (List kW) :=
 pP kT a0
def vq (a0 : List ke) (c : kk) : Option ((List kW) × Bool) :=
 ((wq a0 c).bind fun b => (if (!b.2) then some ([], false) else ((vl b.1).bind fun a => some (a, true))))
def zj (a0 : List ke) (b : ByteArray) : Option ((List (kd × (List (ByteArray × Bool)))) × (List ke) × (List (kd × (List ke))) × (List (ByteArray × (List ke))) × (List kk) × Int × ByteArray) :=
 ((xr a0).bind fun a => some (a.1, a.2.1, a.2.2.1, a.2.2.2.1, a.2.2.2.2.1, a.2.2.2.2.2, b))
def nE (f1 : ml → Option Bool) : List ml → Nat → Option Int
 | [], _ => some (-1)
 | c :: a, i47 => ((f1 c).bind fun b => (if b then some (i47 : Int) else (nE f1 a (i47 + 1))))
def tp (a0 : List ml) (f1 : ml → Option Bool) : Option Int :=
 nE f1 a0 0
def wR (a0 : ml) (a : ke) : Option Bool :=
 some (nr a0.Signed.ke a)
def yZ (a0 : lD) (c : ke) : Option (ml × Bool) :=
 ((tp a0.kZ (fun (x : ml) => wR x c)).bind fun a => (if (decide (a < 0)) then some ((⟨(⟨(⟨0, (⟨zS, zS⟩ : kd), zS, (⟨zS, zS⟩ : kd), (⟨zS, zS⟩ : kd), zS⟩ : ke), []⟩ : Signed), (⟨0, 0, (⟨zS, zS⟩ : kd), []⟩ : Formula)⟩ : ml), false) else ((lN a0.kZ a).bind fun b => some (b, true))))
def uQ (a0 : List oZ) : Option (List oZ) :=
 ((mZ 128 ([]) a0).bind fun a => some a)
def oq (f1 : oZ → Option Bool) : List oZ → Nat → Option Int
 | [], _ => some (-1)
 | c :: a, i47 => ((f1 c).bind fun b => (if b then some (i47 : Int) else (oq f1 a (i47 + 1))))
def vd (a0 : List oZ) (f1 : oZ → Option Bool) : Option Int :=
 oq f1 a0 0
def nV (f1 : oZ → Option Bool) : Nat → (List oZ) → Int → Int → Option (List oZ)
 | 0, _, _, _ => none
 | h + 1, b, a, c => (if (decide (c < (b.length : Int))) then ((((lN b c).bind fun d => ((f1 d).bind fun i => (if (!i) then ((lN b a).bind fun k => some ((b.set (Int.toNat a) d), (wi0 .i64 (a + 1)))) else some (b, a)))) : Option ((List oZ) × Int)).bind fun (g, j) => (nV f1 h g j (wi0 .i64 (c + 1)))) else ((ot (decide (0 ≤ a) && decide (a ≤ (b.length : Int)))).bind fun _ => ((ot (decide (0 ≤ a) && decide (a ≤ ((nD b (Int.toNat a) (⟨(⟨zS, zS⟩ : kd), (⟨0, 0, (⟨zS, zS⟩ : kd), []⟩ : Formula), []⟩ : oZ)).length : Int)))).bind fun _ => some ((nD b (Int.toNat a) (⟨(⟨zS, zS⟩ : kd), (⟨0, 0, (⟨zS, zS⟩ : kd), []⟩ : Formula), []⟩ : oZ)).take (Int.toNat a)))))
def rN (a0 : List oZ) (f1 : oZ → Option Bool) : Option (List oZ) :=
 ((vd a0 f1).bind fun a => (if (a == (-1)) then some a0 else nV f1 kT a0 a (wi0 .i64 (a + 1))))
def su (a0 : oZ) (a : ke) : Option Bool :=
 ((wc a0.nv a).bind fun b => some (!b))
def ym (a0 : lD) (b : ke) : Option (List oZ) :=
 ((uQ a0.mu).bind fun c => ((rN c (fun (x : oZ) => su x b)).bind fun a => some a))
def pJ (g : Int) (rec : Formula → Int → Option (Int × Int)) : List Formula → Int → Int → Option (Int × Int)
 | [], a, c => some (a, c)
 | h :: d, a, c => (if (decide (a > g)) then some (a, c) else ((rec h (wi0 .i64 (g - a))).bind fun b => (pJ g rec d (wi0 .i64 (a + b.1)) (if b.2 > c then b.2 else c))))
def vQ (rec : Formula → Int → Option (Int × Int)) (a0 : Formula) (c : Int) : Option (Int × Int) :=
 ((pJ c rec a0.Kids 1 0).bind fun (a, b) => some (a, (wi0 .i64 (b + 1))))
def oK : Nat → Formula → Int → Option (Int × Int)
 | 0 => fun _ _ => none
 | n + 1 => vQ (oK n)
def xB (a0 : Formula) : Option (Int × Int) :=
 ((oK kT a0 4096).bind fun a => (if (decide (a.1 > 4096)) then some (0, 0) else some (a.1, a.2)))
def xw (a0 : Formula) : Option Bool :=
 (if (a0.Op == 1) then ((pH a0.kd).bind fun d => ((if d then some ((a0.Kids.length : Int) == 0) else some false).bind fun g => ((if g then some (a0.K == 0) else some false).bind fun h => some h))) else ((if (a0.Op == 2) then some (a0.Op == 2) else some (a0.Op == 3)).bind fun i => (if i then ((if (kG a0.kd (⟨zS, zS⟩ : kd)) then some (a0.K == 0) else some false).bind fun j => some j) else ((if (a0.Op == 4) then some (kG a0.kd (⟨zS, zS⟩ : kd)) else some false).bind fun k => ((if k then some (decide (a0.K ≥ 0)) else some false).bind fun a => ((if a then some (decide (a0.K ≤ (a0.Kids.length : Int))) else some false).bind fun b => ((if b then some (decide ((a0.Kids.length : Int) ≥ 1)) else some false).bind fun c => some c)))))))
def nF (f1 : Formula → Option Bool) : List Formula → Nat → Option Int
 | [], _ => some (-1)
 | c :: a, i41 => ((f1 c).bind fun b => (if b then some (i41 : Int) else (nF f1 a (i41 + 1))))
def th (a0 : List Formula) (f1 : Formula → Option Bool) : Option Int :=
 nF f1 a0 0
def ov (a0 : List Formula) (f1 : Formula → Option Bool) : Option Bool :=
 ((th a0 f1).bind fun a => some (decide (a ≥ 0)))
def uO (rec : Formula → Option Bool) (a0 : Formula) : Option Bool :=
 ((rec a0).bind fun a => some (!a))
def vT (rec : Formula → Option Bool) (a0 : Formula) : Option Bool :=
 ((xw a0).bind fun c => ((if c then some (decide ((a0.Kids.length : Int) ≤ 8)) else some false).bind fun d => ((if d then ((ov a0.Kids (fun (x : Formula) => uO rec x)).bind fun a => some (!a)) else some false).bind fun b => some b)))
def rE : Nat → Formula → Option Bool
 | 0 => fun _ => none
 | n + 1 => vT (rE n)
def ql (a0 : Formula) : Option Bool :=
 ((xB a0).bind fun b => ((if (decide (b.1 ≥ 1)) then some (decide (b.1 ≤ 64)) else some false).bind fun g => ((if g then some (decide (b.2 ≤ 6)) else some false).bind fun c => ((if c then ((rE kT a0).bind fun a => some a) else some false).bind fun d => some d))))
def tU (a0 : Formula) (a : Int) : Option Bool :=
 ((if (a0.Op == a) then some ((a0.Kids.length : Int) == 0) else some false).bind fun x6 => some x6)
def zi  : Option Formula :=
 some (⟨2, 0, (⟨zS, zS⟩ : kd), []⟩ : Formula)
def zI  : Option Formula :=
 some (⟨3, 0, (⟨zS, zS⟩ : kd), []⟩ : Formula)
def qN (a0 : Int) : List Formula → (List Formula) → Option (List Formula)
 | [], a => some a
 | b :: c, a => (if (b.Op == a0) then ((mZ 72 a b.Kids).bind fun d => (qN a0 c d)) else ((mZ 72 a ([b])).bind fun g => (qN a0 c g)))
def Az (a0 : Int) (a : List Formula) : Option (List Formula) :=
 qN a0 a ([])
def qU (a0 : Formula) (a : Int) : Option Bool :=
 ((tU a0 a).bind fun b => some b)
def sD (a0 : List Formula) : Option (List Formula) :=
 ((mZ 72 ([]) a0).bind fun a => some a)
def mw (n : Int) (f3 : (Formula × Formula) → Option Int) : Nat → (List Formula) → Int → Option (List Formula)
 | 0, _, _ => none
 | g + 1, b, a => ((if (decide (a > n)) then ((lN b a).bind fun j => ((lN b (wi0 .i64 (a - 1))).bind fun k => ((f3 (j, k)).bind fun h => some (decide (h < 0))))) else some false).bind fun i => (if i then ((lN b (wi0 .i64 (a - 1))).bind fun d => ((lN b a).bind fun c => ((lN b a).bind fun l => ((lN (b.set (Int.toNat a) d) (wi0 .i64 (a - 1))).bind fun m => (mw n f3 g ((b.set (Int.toNat a) d).set (Int.toNat (wi0 .i64 (a - 1))) (⟨c.Op, c.K, c.kd, c.Kids⟩ : Formula)) (wi0 .i64 (a - 1))))))) else some b))
def mf (a2 g : Int) (f3 : (Formula × Formula) → Option Int) : Nat → (List Formula) → Int → Option (List Formula)
 | 0, _, _ => none
 | d + 1, b, a => (if (decide (a < a2)) then ((mw g f3 kT b a).bind fun c => (mf a2 g f3 d c (wi0 .i64 (a + 1)))) else some b)
def nq (a0 : List Formula) (a a2 : Int) (f3 : (Formula × Formula) → Option Int) : Option (List Formula) :=
 mf a2 a f3 kT a0 (wi0 .i64 (a + 1))
def mF (a3 a2 g : Int) : Nat → (List Formula) → Int → Option (List Formula)
 | 0, _, _ => none
 | h + 1, b, a => (if (decide (a < a3)) then ((lN b (wi0 .i64 (a2 + a))).bind fun d => ((lN b (wi0 .i64 (g + a))).bind fun c => ((lN b (wi0 .i64 (g + a))).bind fun i => ((lN (b.set (Int.toNat (wi0 .i64 (g + a))) d) (wi0 .i64 (a2 + a))).bind fun j => (mF a3 a2 g h ((b.set (Int.toNat (wi0 .i64 (g + a))) d).set (Int.toNat (wi0 .i64 (a2 + a))) (⟨c.Op, c.K, c.kd, c.Kids⟩ : Formula)) (wi0 .i64 (a + 1))))))) else some b)
def nk (a0 : List Formula) (a a2 a3 : Int) (f4 : (Formula × Formula) → Option Int) : Option (List Formula) :=
 mF a3 a2 a kT a0 0
def mQ (a2 : Int) (f4 : (Formula × Formula) → Option Int) : Nat → (List Formula) → Int → Int → Option (List Formula)
 | 0, _, _, _ => none
 | n185 + 1, c, a, b => (if (a != b) then (if (decide (a > b)) then ((nk c (wi0 .i64 (a2 - a)) a2 b f4).bind fun d => (mQ a2 f4 n185 d (wi0 .i64 (a - b)) b)) else ((nk c (wi0 .i64 (a2 - a)) (wi0 .i64 ((wi0 .i64 (a2 + b)) - a)) a f4).bind fun g => (mQ a2 f4 n185 g a (wi0 .i64 (b - a))))) else ((nk c (wi0 .i64 (a2 - a)) a2 a f4).bind fun h => some h))
def na (a0 : List Formula) (a a2 a3 : Int) (f4 : (Formula × Formula) → Option Int) : Option (List Formula) :=
 mQ a2 f4 kT a0 (wi0 .i64 (a2 - a)) (wi0 .i64 (a3 - a2))
def mM (g : Int) : Nat → (List Formula) → Int → Option (List Formula)
 | 0, _, _ => none
 | h + 1, b, a => (if (decide (a < (wi0 .i64 (g - 1)))) then ((lN b (wi0 .i64 (a + 1))).bind fun d => ((lN b a).bind fun c => ((lN b a).bind fun i => ((lN (b.set (Int.toNat a) d) (wi0 .i64 (a + 1))).bind fun j => (mM g h ((b.set (Int.toNat a) d).set (Int.toNat (wi0 .i64 (a + 1))) (⟨c.Op, c.K, c.kd, c.Kids⟩ : Formula)) (wi0 .i64 (a + 1))))))) else some b)
def lP (a0 : List Formula) (i : Int) (f4 : (Formula × Formula) → Option Int) : Nat → Int → Int → Option (List Formula)
 | 0, _, _ => none
 | n325 + 1, a, b => (if (decide (a < b)) then ((lN a0 (wi0 .i64 (Int.fdiv (IntKind.u64.wrap (wi0 .i64 (a + b))) (2 ^ min (Int.toNat 1) (IntKind.bits .u64))))).bind fun g => ((lN a0 i).bind fun h => ((f4 (g, h)).bind fun d => (if (decide (d < 0)) then (lP a0 i f4 n325 (wi0 .i64 ((wi0 .i64 (Int.fdiv (IntKind.u64.wrap (wi0 .i64 (a + b))) (2 ^ min (Int.toNat 1) (IntKind.bits .u64)))) + 1)) b) else (lP a0 i f4 n325 a (wi0 .i64 (Int.fdiv (IntKind.u64.wrap (wi0 .i64 (a + b))) (2 ^ min (Int.toNat 1) (IntKind.bits .u64))))))))) else ((mM a kT a0 i).bind fun c => some c))
def mL (d : Int) : Nat → (List Formula) → Int → Option (List Formula)
 | 0, _, _ => none
 | h + 1, b, a => (if (decide (a > d)) then ((lN b (wi0 .i64 (a - 1))).bind fun g => ((lN b a).bind fun c => ((lN b a).bind fun i => ((lN (b.set (Int.toNat a) g) (wi0 .i64 (a - 1))).bind fun j => (mL d h ((b.set (Int.toNat a) g).set (Int.toNat (wi0 .i64 (a - 1))) (⟨c.Op, c.K, c.kd, c.Kids⟩ : Formula)) (wi0 .i64 (a - 1))))))) else some b)
def lQ (a0 : List Formula) (a2 : Int) (f4 : (Formula × Formula) → Option Int) : Nat → Int → Int → Option (List Formula)
 | 0, _, _ => none
 | c + 1, a, b => (if (decide (a < b)) then ((lN a0 a2).bind fun h => ((lN a0 (wi0 .i64 (Int.fdiv (IntKind.u64.wrap (wi0 .i64 (a + b))) (2 ^ min (Int.toNat 1) (IntKind.bits .u64))))).bind fun i => ((f4 (h, i)).bind fun g => (if (!(decide (g < 0))) then (lQ a0 a2 f4 c (wi0 .i64 ((wi0 .i64 (Int.fdiv (IntKind.u64.wrap (wi0 .i64 (a + b))) (2 ^ min (Int.toNat 1) (IntKind.bits .u64)))) + 1)) b) else (lQ a0 a2 f4 c a (wi0 .i64 (Int.fdiv (IntKind.u64.wrap (wi0 .i64 (a + b))) (2 ^ min (Int.toNat 1) (IntKind.bits .u64))))))))) else ((mL a kT a0 a2).bind fun d => some d))
def lz (a0 : List Formula) (c a3 a2 : Int) (f4 : (Formula × Formula) → Option Int) (rec : (List Formula) → Int → Int → Int → ((Formula × Formula) → Option Int) → Option (List Formula)) : Nat → Int → Int → Option (List Formula)
 | 0, _, _ => none
 | h + 1, a, b => (if (decide (a < b)) then ((lN a0 (wi0 .i64 ((wi0 .i64 ((wi0 .i64 ((wi0 .i64 (Int.fdiv (IntKind.u64.wrap (wi0 .i64 (c + a3))) (2 ^ min (Int.toNat 1) (IntKind.bits .u64)))) + a2)) - 1)) - (wi0 .i64 (Int.fdiv (IntKind.u64.wrap (wi0 .i64 (a + b))) (2 ^ min (Int.toNat 1) (IntKind.bits .u64))))))).bind fun m => ((lN a0 (wi0 .i64 (Int.fdiv (IntKind.u64.wrap (wi0 .i64 (a + b))) (2 ^ min (Int.toNat 1) (IntKind.bits .u64))))).bind fun n => ((f4 (m, n)).bind fun i => (if (!(decide (i < 0))) then (lz a0 c a3 a2 f4 rec h (wi0 .i64 ((wi0 .i64 (Int.fdiv (IntKind.u64.wrap (wi0 .i64 (a + b))) (2 ^ min (Int.toNat 1) (IntKind.bits .u64)))) + 1)) b) else (lz a0 c a3 a2 f4 rec h a (wi0 .i64 (Int.fdiv (IntKind.u64.wrap (wi0 .i64 (a + b))) (2 ^ min (Int.toNat 1) (IntKind.bits .u64))))))))) else ((((if (decide (a < a2)) then some (decide (a2 < (wi0 .i64 ((wi0 .i64 ((wi0 .i64 (Int.fdiv (IntKind.u64.wrap (wi0 .i64 (c + a3))) (2 ^ min (Int.toNat 1) (IntKind.bits .u64)))) + a2)) - a)))) else some false).bind fun q => (if q then ((na a0 a a2 (wi0 .i64 ((wi0 .i64 ((wi0 .i64 (Int.fdiv (IntKind.u64.wrap (wi0 .i64 (c + a3))) (2 ^ min (Int.toNat 1) (IntKind.bits .u64)))) + a2)) - a)) f4).bind fun l => some l) else some a0)) : Option (List Formula)).bind fun d => ((((if (decide (c < a)) then some (decide (a < (wi0 .i64 (Int.fdiv (IntKind.u64.wrap (wi0 .i64 (c + a3))) (2 ^ min (Int.toNat 1) (IntKind.bits .u64)))))) else some false).bind fun p => (if p then ((rec d c a (wi0 .i64 (Int.fdiv (IntKind.u64.wrap (wi0 .i64 (c + a3))) (2 ^ min (Int.toNat 1) (IntKind.bits .u64)))) f4).bind fun k => some k) else some d)) : Option (List Formula)).bind fun g => ((if (decide ((wi0 .i64 (Int.fdiv (IntKind.u64.wrap (wi0 .i64 (c + a3))) (2 ^ min (Int.toNat 1) (IntKind.bits .u64)))) < (wi0 .i64 ((wi0 .i64 ((wi0 .i64 (Int.fdiv (IntKind.u64.wrap (wi0 .i64 (c + a3))) (2 ^ min (Int.toNat 1) (IntKind.bits .u64)))) + a2)) - a)))) then some (decide ((wi0 .i64 ((wi0 .i64 ((wi0 .i64 (Int.fdiv (IntKind.u64.wrap (wi0 .i64 (c + a3))) (2 ^ min (Int.toNat 1) (IntKind.bits .u64)))) + a2)) - a)) < a3)) else some false).bind fun o => (if o then ((rec g (wi0 .i64 (Int.fdiv (IntKind.u64.wrap (wi0 .i64 (c + a3))) (2 ^ min (Int.toNat 1) (IntKind.bits .u64)))) (wi0 .i64 ((wi0 .i64 ((wi0 .i64 (Int.fdiv (IntKind.u64.wrap (wi0 .i64 (c + a3))) (2 ^ min (Int.toNat 1) (IntKind.bits .u64)))) + a2)) - a)) a3 f4).bind fun j => some j) else some g)))))
def pw (rec : (List Formula) → Int → Int → Int → ((Formula × Formula) → Option Int) → Option (List Formula)) (a0 : List Formula) (a a2 a3 : Int) (f4 : (Formula × Formula) → Option Int) : Option (List Formula) :=
 (if ((wi0 .i64 (a2 - a)) == 1) then lP a0 a f4 kT a2 a3 else (if ((wi0 .i64 (a3 - a2)) == 1) then lQ a0 a2 f4 kT a a2 else (((if (decide (a2 > (wi0 .i64 (Int.fdiv (IntKind.u64.wrap (wi0 .i64 (a + a3))) (2 ^ min (Int.toNat 1) (IntKind.bits .u64)))))) then some ((wi0 .i64 ((wi0 .i64 ((wi0 .i64 (Int.fdiv (IntKind.u64.wrap (wi0 .i64 (a + a3))) (2 ^ min (Int.toNat 1) (IntKind.bits .u64)))) + a2)) - a3)), (wi0 .i64 (Int.fdiv (IntKind.u64.wrap (wi0 .i64 (a + a3))) (2 ^ min (Int.toNat 1) (IntKind.bits .u64))))) else some (a, a2)) : Option (Int × Int)).bind fun (b, c) => lz a0 a a3 a2 f4 rec kT b c)))
def mg : Nat → (List Formula) → Int → Int → Int → ((Formula × Formula) → Option Int) → Option (List Formula)
 | 0 => fun _ _ _ _ _ => none
 | n + 1 => pw (mg n)
def mP (i b : Int) (f2 : (Formula × Formula) → Option Int) : Nat → (List Formula) → Int → Int → Option ((List Formula) × Int)
 | 0, _, _, _ => none
 | g + 1, d, c, a => (if (decide (a ≤ i)) then ((mg kT d c (wi0 .i64 (c + b)) a f2).bind fun h => (mP i b f2 g h a (wi0 .i64 (a + (wi0 .i64 (2 * b)))))) else some (d, c))
def mC (j : Int) (f2 : (Formula × Formula) → Option Int) : Nat → (List Formula) → Int → Option (List Formula)
 | 0, _, _ => none
 | h + 1, c, a => (if (decide (a < j)) then ((mP j a f2 kT c 0 (wi0 .i64 (2 * a))).bind fun (d, b) => (((if (decide ((wi0 .i64 (b + a)) < j)) then ((mg kT d b (wi0 .i64 (b + a)) j f2).bind fun i => some i) else some d) : Option (List Formula)).bind fun g => (mC j f2 h g (wi0 .i64 (a * 2))))) else some c)
def mD (i : Int) (f2 : (Formula × Formula) → Option Int) : Nat → (List Formula) → Int → Int → Option (List Formula)
 | 0, _, _, _ => none
 | n123 + 1, c, h, a => (if (decide (a ≤ i)) then ((nq c h a f2).bind fun d => (mD i f2 n123 d a (wi0 .i64 (a + 20)))) else ((nq c h i f2).bind fun g => ((mC i f2 kT g 20).bind fun b => some b)))
def rz (a0 : List Formula) (a : Int) (f2 : (Formula × Formula) → Option Int) : Option (List Formula) :=
 mD a f2 kT a0 0 20
def pg (a0 : List Formula) (f1 : (Formula × Formula) → Option Int) : Option (List Formula) :=
 ((rz a0 (a0.length : Int) f1).bind fun a => some a)
def qO (rec : (List Int) → Formula → Option (List Int)) : List Formula → (List Int) → Option (List Int)
 | [], a => some a
 | d :: b, a => ((rec a d).bind fun c => (qO rec b c))
def vY (rec : (List Int) → Formula → Option (List Int)) (b : List Int) (a : Formula) : Option (List Int) :=
 ((ox b a.Op).bind fun h => (if (a.Op == 1) then ((qy h.2 a.kd).bind fun g => some g.2) else (((if (a.Op == 4) then ((ox h.2 a.K).bind fun c => some c.2) else some h.2) : Option (List Int)).bind fun d => ((ox d (a.Kids.length : Int)).bind fun i => qO rec a.Kids i.2))))
def qg : Nat → (List Int) → Formula → Option (List Int)
 | 0 => fun _ _ => none
 | n + 1 => vY (qg n)
def wS (a : List Int) (b : Formula) : Option (Bool × (List Int)) :=
 ((ql b).bind fun c => (if (!c) then some (false, a) else ((qg kT a b).bind fun d => some (true, d))))
def tE (a0 : Formula) : Option (List Int) :=
 ((wS ([]) a0).bind fun b => ((uq b.2).bind fun a => some a))
def tw (a0 d : Formula) : Option Int :=
 ((tE a0).bind fun a => ((tE d).bind fun b => ((wX a b).bind fun c => some c)))
def vw (a0 : List Formula) : Option (List Formula) :=
 ((sD a0).bind fun b => ((pg b (fun (x : (Formula × Formula)) => tw x.1 x.2)).bind fun a => some a))
def mX (b : Int) (f1 : (Formula × Formula) → Option Bool) : Nat → (List Formula) → Int → Int → Option ((List Formula) × Int)
 | 0, _, _, _ => none
 | h + 1, a, c, d => (if (decide (d < ((a.length - (Int.toNat b) : Nat) : Int))) then ((((lN (a.drop (Int.toNat b)) d).bind fun k => ((lN (a.drop (Int.toNat b)) (wi0 .i64 (d - 1))).bind fun l => ((f1 (k, l)).bind fun i => (if (!i) then ((lN (a.drop (Int.toNat b)) d).bind fun m => ((lN a c).bind fun n => some ((a.set (Int.toNat c) m), (wi0 .i64 (c + 1))))) else some (a, c))))) : Option ((List Formula) × Int)).bind fun (g, j) => (mX b f1 h g j (wi0 .i64 (d + 1)))) else some (a, c))
def mV (a0 : List Formula) (f1 : (Formula × Formula) → Option Bool) : Nat → Int → Option (List Formula)
 | 0, _ => none
 | d + 1, a => (if (decide (a < (a0.length : Int))) then ((lN a0 a).bind fun h => ((lN a0 (wi0 .i64 (a - 1))).bind fun i => ((f1 (h, i)).bind fun g => (if g then ((ot (decide (0 ≤ a) && decide (a ≤ (a0.length : Int)))).bind fun _ => ((mX a f1 kT a0 a 1).bind fun (c, b) => ((ot (decide (0 ≤ b) && decide (b ≤ (c.length : Int)))).bind fun _ => ((ot (decide (0 ≤ b) && decide (b ≤ ((nD c (Int.toNat b) (⟨0, 0, (⟨zS, zS⟩ : kd), []⟩ : Formula)).length : Int)))).bind fun _ => some ((nD c (Int.toNat b) (⟨0, 0, (⟨zS, zS⟩ : kd), []⟩ : Formula)).take (Int.toNat b)))))) else (mV a0 f1 d (wi0 .i64 (a + 1))))))) else some a0)
def pQ (a0 : List Formula) (f1 : (Formula × Formula) → Option Bool) : Option (List Formula) :=
 (if (decide ((a0.length : Int) < 2)) then some a0 else mV a0 f1 kT 1)
def lL (g : List Formula) (f2 : (Formula × Formula) → Option Bool) : List Formula → Nat → Option Bool
 | [], _ => some true
 | d :: c, i95 => ((lN g (i95 : Int)).bind fun b => ((f2 (d, b)).bind fun a => (if (!a) then some false else (lL g f2 c (i95 + 1)))))
def mW (a0 a : List Formula) (f2 : (Formula × Formula) → Option Bool) : Option Bool :=
 (if ((a0.length : Int) != (a.length : Int)) then some false else lL a f2 a0 0)
def wK (rec : Formula → Formula → Option Bool) (a0 a : Formula) : Option Bool :=
 ((if (a0.Op == a.Op) then some (a0.K == a.K) else some false).bind fun c => ((if c then some (kG a0.kd a.kd) else some false).bind fun d => ((if d then ((mW a0.Kids a.Kids (fun (x : (Formula × Formula)) => rec x.1 x.2)).bind fun b => some b) else some false).bind fun g => some g)))
def oC : Nat → Formula → Formula → Option Bool
 | 0 => fun _ _ => none
 | n + 1 => wK (oC n)
def oG (a0 : lh) (c : Int) (a2 : List Formula) : Option (Formula × lh) :=
 ((Az c a2).bind fun i => ((ov i (fun (x : Formula) => qU x (wi0 .i64 (5 - c)))).bind fun d => (if d then some ((⟨(wi0 .i64 (5 - c)), 0, (⟨zS, zS⟩ : kd), []⟩ : Formula), a0) else ((vw i).bind fun g => ((pQ g (fun (x : (Formula × Formula)) => oC kT x.1 x.2)).bind fun a => (((if (decide ((a.length : Int) > 64)) then some (⟨12⟩ : lh) else some a0) : Option lh).bind fun b => (if ((a.length : Int) == 1) then ((lN a 0).bind fun h => some (h, b)) else some ((⟨c, 0, (⟨zS, zS⟩ : kd), a⟩ : Formula), b))))))))
def mU (a0 : lh) : List Formula → Int → (List Formula) → Option (Formula × lh)
 | [], b, a => (if (decide (b ≤ 0)) then (zi.bind fun l => some (l, a0)) else (if (decide (b > (a.length : Int))) then (zI.bind fun m => some (m, a0)) else (if (b == (a.length : Int)) then ((oG a0 2 a).bind fun g => some (g.1, g.2)) else (if (b == 1) then ((oG a0 3 a).bind fun h => some (h.1, h.2)) else ((vw a).bind fun n => some ((⟨4, b, (⟨zS, zS⟩ : kd), n⟩ : Formula), a0))))))
 | d :: c, b, a => ((tU d 2).bind fun j => (if j then (mU a0 c (wi0 .i64 (b - 1)) a) else ((tU d 3).bind fun k => (if (!k) then ((mZ 72 a ([d])).bind fun i => (mU a0 c b i)) else (mU a0 c b a)))))
def qV (a0 : lh) (a : Int) (a2 : List Formula) : Option (Formula × lh) :=
 mU a0 a2 a ([])
def nX (rec : lh → Formula → Option (Formula × lh)) (k : Formula) : List Formula → (List Formula) → lh → Option (Formula × lh)
 | [], a, b => (if (k.Op == 4) then ((qV b k.K a).bind fun d => some (d.1, d.2)) else ((oG b k.Op a).bind fun g => some (g.1, g.2)))
 | j :: h, a, b => ((rec b j).bind fun c => ((mZ 72 a ([c.1])).bind fun i => (nX rec k h i c.2)))
def sr (rec : lh → Formula → Option (Formula × lh)) (a0 : lh) (a : Formula) : Option (Formula × lh) :=
 (if (a.Op == 1) then some (a, a0) else nX rec a a.Kids ([]) a0)
def nC : Nat → lh → Formula → Option (Formula × lh)
 | 0 => fun _ _ => none
 | n + 1 => sr (nC n)
def yd (a0 : Formula) : Option (Formula × Int) :=
 ((ql a0).bind fun d => (if (!d) then some ((⟨0, 0, (⟨zS, zS⟩ : kd), []⟩ : Formula), 11) else ((nC kT (⟨0⟩ : lh) a0).bind fun a => ((if (a.2.e != 0) then some true else ((ql a.1).bind fun b => some (!b))).bind fun c => (if c then some ((⟨0, 0, (⟨zS, zS⟩ : kd), []⟩ : Formula), 12) else some (a.1, 0))))))
def yk (a0 b : Formula) : Option (Formula × Int) :=
 ((yd (⟨2, 0, (⟨zS, zS⟩ : kd), [a0, b]⟩ : Formula)).bind fun a => some (a.1, a.2))
def tQ  : List Formula → Int → Int → Int → kd → (List Formula) → Option (Int × Int × Int × kd × (List Formula))
 | [], c, d, g, h, b => some (c, d, g, h, b)
 | j :: i, c, d, g, h, b => (if (c != 0) then some (c, d, g, h, b) else ((yk (⟨d, g, h, b⟩ : Formula) j).bind fun a => (tQ i a.2 ((a.1).Op) ((a.1).K) ((a.1).kd) ((a.1).Kids))))
def wF (a0 : List Formula) : Option (Formula × Int) :=
 ((lN a0 0).bind fun x6 => ((yd x6).bind fun a => ((ot (decide (0 ≤ 1) && decide (1 ≤ (a0.length : Int)))).bind fun _ => ((tQ (a0.drop (Int.toNat 1)) a.2 ((a.1).Op) ((a.1).K) ((a.1).kd) ((a.1).Kids)).bind fun (b, d, g, h, c) => (if (b != 0) then some ((⟨0, 0, (⟨zS, zS⟩ : kd), []⟩ : Formula), b) else some ((⟨d, g, h, c⟩ : Formula), 0))))))
def uJ  : List oZ → (List Formula) → Option (Formula × Int)
 | [], a => ((wF a).bind fun b => some (b.1, b.2))
 | g :: c, a => ((mZ 72 a ([g.kv])).bind fun d => (uJ c d))
def AV (a0 : lD) (c : ke) : Option (Formula × Int) :=
 ((yZ a0 c).bind fun a => (if (!a.2) then some ((⟨0, 0, (⟨zS, zS⟩ : kd), []⟩ : Formula), 42) else ((ym a0 c).bind fun b => uJ b ([(a.1).kv]))))
def pI (rec : Formula → (kd → Option Bool) → Option Bool) (f1 : kd → Option Bool) (a0 : Formula) : List Formula → Int → Option Bool
 | [], a => (if (a0.Op == 2) then some (a == (a0.Kids.length : Int)) else (if (a0.Op == 3) then some (decide (a > 0)) else some (decide (a ≥ a0.K))))
 | d :: b, a => ((rec d f1).bind fun c => (if c then (pI rec f1 a0 b (wi0 .i64 (a + 1))) else (pI rec f1 a0 b a)))
def vR (rec : Formula → (kd → Option Bool) → Option Bool) (a0 : Formula) (f1 : kd → Option Bool) : Option Bool :=
 (if (a0.Op == 1) then ((f1 a0.kd).bind fun a => some a) else pI rec f1 a0 a0.Kids 0)
def qj : Nat → Formula → (kd → Option Bool) → Option Bool
 | 0 => fun _ _ => none
 | n + 1 => vR (qj n)
def sm (a0 : Formula) (f1 : kd → Option Bool) : Option Bool :=
 ((ql a0).bind fun c => ((if c then ((qj kT a0 f1).bind fun a => some a) else some false).bind fun b => some b))
def sV (a0 : kd) (g : List (kd × (List (ByteArray × Bool)))) (a : List ke) (d : List (kd × (List ke))) (b : List (ByteArray × (List ke))) (c : List kk) (h : Int) (c1 : ByteArray) : Option Bool :=
 ((um g a d b c h a0 c1).bind fun i => some i)
def ry (a0 : lD) (c : ((List (kd × (List (ByteArray × Bool)))) × (List ke) × (List (kd × (List ke))) × (List (ByteArray × (List ke))) × (List kk) × Int × ByteArray)) : List ml → (List ke) → Option (List ke)
 | [], a => ((xx a).bind fun i => some i)
 | d :: b, a => ((AV a0 d.Signed.ke).bind fun r417 => ((if (r417.2 == 0) then ((sm r417.1 (fun (x : kd) => sV x c.1 c.2.1 c.2.2.1 c.2.2.2.1 c.2.2.2.2.1 c.2.2.2.2.2.1 c.2.2.2.2.2.2)).bind fun h => some h) else some false).bind fun j => (if j then ((mZ 136 a ([d.Signed.ke])).bind fun g => (ry a0 c b g)) else (ry a0 c b a))))
def od (a0 : lD) (a : List ke) (a2 : ByteArray) : Option (List ke) :=
 ((zj a a2).bind fun b => ry a0 b a0.kZ ([]))
def oA (a0 j : lD) : Nat → (List ke) → (List ke) → Int → Option ((List ke) × (List ke) × Int)
 | 0, _, _, _ => none
 | h + 1, a, b, g => ((od a0 b j.Name).bind fun c => ((od j a a0.Name).bind fun d => ((if ((c.length : Int) == (a.length : Int)) then some ((d.length : Int) == (b.length : Int)) else some false).bind fun i => (if i then some (a, b, g) else (oA a0 j h c d (wi0 .i64 (g + 1)))))))
def rb (a0 a : lD) : Option ((List ke) × (List ke) × Int) :=
 oA a0 a kT ([]) ([]) 0
def se (rec : (List Formula) → Option Int) : List Formula → Int → Option Int
 | [], b => some b
 | a :: d, b => ((rec a.Kids).bind fun c => (se rec d (wi0 .i64 (b + (wi0 .i64 ((wi0 .i64 (1 + (wi0 .i64 (Int.tdiv (wi0 .i64 ((a.kd.kj.size : Int) + (a.kd.kq.size : Int))) 16)))) + c))))))
def xd (rec : (List Formula) → Option Int) (a0 : List Formula) : Option Int :=
 se rec a0 0
def pO : Nat → (List Formula) → Option Int
 | 0 => fun _ => none
 | n + 1 => xd (pO n)
def si  : List oZ → Int → Option Int
 | [], b => some b
 | a :: c, b => ((pO kT ([a.kv])).bind fun d => ((wi a.nv).bind fun g => (si c (wi0 .i64 (b + (wi0 .i64 ((wi0 .i64 ((wi0 .i64 ((a.kd.kj.size : Int) + (a.kd.kq.size : Int))) + (wi0 .i64 (20 * d)))) + g)))))))
def sa (a0 : lD) : List ml → Int → Option Int
 | [], a => ((si a0.mu a).bind fun c => some c)
 | b :: d, a => ((((yv ([]) ([b.Signed])).bind fun i => some (i, ([b.kv]))) : Option (Int × (List Formula))).bind fun (j, g) => ((pO kT g).bind fun h => (sa a0 d (wi0 .i64 (a + (wi0 .i64 (j + (wi0 .i64 (20 * h)))))))))
def wv (a0 : lD) : Option Int :=
 sa a0 a0.kZ (a0.Name.size : Int)
def wg (a0 c : lD) : Option ((List ke) × (List (kd × (List (ByteArray × Bool)))) × (List ke) × (List (kd × (List ke))) × (List (ByteArray × (List ke))) × (List kk) × Int × ByteArray) :=
 ((rb a0 c).bind fun b => ((xr b.2.1).bind fun a => some (b.2.1, a.1, a.2.1, a.2.2.1, a.2.2.2.1, a.2.2.2.2.1, a.2.2.2.2.2, c.Name)))
def oX (a0 : kd) (g : List (kd × (List (ByteArray × Bool)))) (a : List ke) (d : List (kd × (List ke))) (b : List (ByteArray × (List ke))) (c : List kk) (i : Int) (h : ByteArray) (j : List ml) (k : List oZ) : Option Bool :=
 ((um g a d b c i a0 h).bind fun l => some l)
def qk (a0 b : lD) (a2 : Formula) : Option Bool :=
 ((wg a0 b).bind fun a => ((sm a2 (fun (x : kd) => oX x a.2.1 a.2.2.1 a.2.2.2.1 a.2.2.2.2.1 a.2.2.2.2.2.1 a.2.2.2.2.2.2.1 a.2.2.2.2.2.2.2 b.kZ b.mu)).bind fun c => some c))
def rO (a0 : List kd) : Option (List kd) :=
 ((mZ 32 ([]) a0).bind fun a => some a)
def nA (f1 : kd → Option Bool) : List kd → Nat → Option Int
 | [], _ => some (-1)
 | c :: a, i35 => ((f1 c).bind fun b => (if b then some (i35 : Int) else (nA f1 a (i35 + 1))))
def pU (a0 : List kd) (f1 : kd → Option Bool) : Option Int :=
 nA f1 a0 0
def nQ (f1 : kd → Option Bool) : Nat → (List kd) → Int → Int → Option (List kd)
 | 0, _, _, _ => none
 | n321 + 1, b, a, c => (if (decide (c < (b.length : Int))) then ((((lN b c).bind fun d => ((f1 d).bind fun h => (if (!h) then ((lN b a).bind fun j => some ((b.set (Int.toNat a) d), (wi0 .i64 (a + 1)))) else some (b, a)))) : Option ((List kd) × Int)).bind fun (g, i) => (nQ f1 n321 g i (wi0 .i64 (c + 1)))) else ((ot (decide (0 ≤ a) && decide (a ≤ (b.length : Int)))).bind fun _ => ((ot (decide (0 ≤ a) && decide (a ≤ ((nD b (Int.toNat a) (⟨zS, zS⟩ : kd)).length : Int)))).bind fun _ => some ((nD b (Int.toNat a) (⟨zS, zS⟩ : kd)).take (Int.toNat a)))))
def rh (a0 : List kd) (f1 : kd → Option Bool) : Option (List kd) :=
 ((pU a0 f1).bind fun a => (if (a == (-1)) then some a0 else nQ f1 kT a0 a (wi0 .i64 (a + 1))))
def yp (a0 : kd) : Option Bool :=
 ((pH a0).bind fun a => some (!a))
def oB (b : Int) : Nat → (List kd) → Int → Int → Option ((List kd) × Int)
 | 0, _, _, _ => none
 | h + 1, a, c, d => (if (decide (d < ((a.length - (Int.toNat b) : Nat) : Int))) then ((((lN (a.drop (Int.toNat b)) d).bind fun j => ((lN (a.drop (Int.toNat b)) (wi0 .i64 (d - 1))).bind fun k => (if (!(kG j k)) then ((lN (a.drop (Int.toNat b)) d).bind fun l => ((lN a c).bind fun m => some ((a.set (Int.toNat c) l), (wi0 .i64 (c + 1))))) else some (a, c)))) : Option ((List kd) × Int)).bind fun (g, i) => (oB b h g i (wi0 .i64 (d + 1)))) else some (a, c))
def oI (a0 : List kd) : Nat → Int → Option (List kd)
 | 0, _ => none
 | d + 1, a => (if (decide (a < (a0.length : Int))) then ((lN a0 a).bind fun g => ((lN a0 (wi0 .i64 (a - 1))).bind fun h => (if (kG g h) then ((ot (decide (0 ≤ a) && decide (a ≤ (a0.length : Int)))).bind fun _ => ((oB a kT a0 a 1).bind fun (c, b) => ((ot (decide (0 ≤ b) && decide (b ≤ (c.length : Int)))).bind fun _ => ((ot (decide (0 ≤ b) && decide (b ≤ ((nD c (Int.toNat b) (⟨zS, zS⟩ : kd)).length : Int)))).bind fun _ => some ((nD c (Int.toNat b) (⟨zS, zS⟩ : kd)).take (Int.toNat b)))))) else (oI a0 d (wi0 .i64 (a + 1)))))) else some a0)
def tb (a0 : List kd) : Option (List kd) :=
 (if (decide ((a0.length : Int) < 2)) then some a0 else oI a0 kT 1)
def AR (a0 : List kd) : Option (List kd) :=
 ((rO a0).bind fun d => ((rh d (fun (x : kd) => yp x)).bind fun a => ((xF (fun (x : (kd × kd)) => nK x.1 x.2) a).bind fun b => ((tb b).bind fun c => some c))))
def sE (b : Int) : Option (List kW) :=
 (if (decide (b < 0)) then none else (((if (decide ((wi0 .i64 (b - (wi0 .i64 (0 - 0)))) > 0)) then ((Hw 184 (⟨(⟨0, (⟨zS, zS⟩ : kd), zS, (⟨zS, zS⟩ : kd), (⟨zS, zS⟩ : kd), zS⟩ : ke), (⟨(⟨zS, zS⟩ : kd), zS⟩ : kk)⟩ : kW) (wi0 .i64 (b - (wi0 .i64 (0 - 0))))).bind fun a => ((ot (decide (0 ≤ 0) && decide (0 ≤ (a.length : Int)))).bind fun _ => some (a.take (Int.toNat 0)))) else some ([])) : Option (List kW)).bind fun c => some c))
def oU  : List (List kW) → (List kW) → Option (List kW)
 | [], a => some a
 | d :: b, a => ((mZ 184 a d).bind fun c => (oU b c))
def oR (a0 : List (List kW)) : List (List kW) → Int → Option (List kW)
 | [], a => ((sE a).bind fun g => ((oU a0 g).bind fun b => some b))
 | c :: d, a => (if (decide ((wi0 .i64 (a + (c.length : Int))) < 0)) then none else (oR a0 d (wi0 .i64 (a + (c.length : Int)))))
def vZ (a0 : List (List kW)) : Option (List kW) :=
 oR a0 a0 0
def qM  : List kW → (List (kk × Bool)) → (List kW) → Option (List kW)
 | [], a, b => some b
 | d :: c, a, b => (if (!(xH nJ a d.kk false)) then ((mZ 184 b ([d])).bind fun g => (qM c (nR nJ a d.kk true) g)) else (qM c a b))
def yw (a0 : List (List kW)) : Option (List kW) :=
 ((vZ a0).bind fun a => qM a ([]) ([]))
def qP (rec : Formula → Option (List kd)) : List Formula → (List kd) → Option (List kd)
 | [], a => some a
 | g :: b, a => ((rec g).bind fun d => ((mZ 32 a d).bind fun c => (qP rec b c)))
def vP (rec : Formula → Option (List kd)) (a0 : Formula) : Option (List kd) :=
 (if (a0.Op == 1) then some [a0.kd] else qP rec a0.Kids ([]))
def rj : Nat → Formula → Option (List kd)
 | 0 => fun _ => none
 | n + 1 => vP (rj n)
def uU (a0 : Formula) : Option (List kd) :=
 ((rj kT a0).bind fun b => ((AR b).bind fun a => some a))
def qw (c : kd) : List kd → Nat → Option Int
 | [], _ => some (-1)
 | b :: a, i46 => (if (kG c b) then some (i46 : Int) else (qw c a (i46 + 1)))
def wJ (a0 : List kd) (a : kd) : Option Int :=
 qw a a0 0
def uZ (a0 : List kd) (a : kd) : Option Bool :=
 ((wJ a0 a).bind fun b => some (decide (b ≥ 0)))
def AX (a0 : List kd) (a : kd) : Option Bool :=
 ((uZ a0 a).bind fun b => some b)
def uj (a0 : ke) (b : Formula) : Option (List ml) :=
 ((An 1 0 8).bind fun a => some [(⟨(⟨a0, a⟩ : Signed), b⟩ : ml)])
def sn (a0 : kd) : Option Formula :=
 some (⟨1, 0, a0, []⟩ : Formula)
def pL (d : Int) : List kd → Nat → (List kd) → Option (List kd)
 | [], _, a => some a
 | g :: b, i72, a => ((ot (decide (0 ≤ (i72 : Int)))).bind fun _ => (if ((wi0 .i64 (BitVec.ofInt (IntKind.bits .i64) (Int.fdiv d (2 ^ min (Int.toNat (i72 : Int)) (IntKind.bits .i64))) &&& BitVec.ofInt (IntKind.bits .i64) 1).toNat) == 1) then ((mZ 32 a ([g])).bind fun c => (pL d b (i72 + 1) c)) else (pL d b (i72 + 1) a)))
def tq (a0 : List kd) (a : Int) : Option (List kd) :=
 pL a a0 0 ([])
def sL (a0 : kd) (a : List kd) : Option Bool :=
 ((AX a a0).bind fun b => some b)
def sO (a0 : Formula) (a : List kd) : Option Bool :=
 ((sm a0 (fun (x : kd) => sL x a)).bind fun b => some b)
def rF (b : Nat) (d : List Bool) (g : Bool) : List kd → Nat → Bool → Option Bool
 | [], _, c => some c
 | l :: h, a, c => ((if c then some true else ((ot (decide (0 ≤ (a : Int)))).bind fun _ => ((if ((wi0 .i64 (BitVec.ofInt (IntKind.bits .i64) (Int.fdiv (b : Int) (2 ^ min (Int.toNat (a : Int)) (IntKind.bits .i64))) &&& BitVec.ofInt (IntKind.bits .i64) 1).toNat) == 1) then ((ot (decide (0 ≤ (a : Int)))).bind fun _ => ((lN (d.set (Int.toNat (b : Int)) g) (wi0 .i64 (BitVec.ofInt (IntKind.bits .i64) (b : Int) &&& ~~~ BitVec.ofInt (IntKind.bits .i64) (wi0 .i64 (1 * 2 ^ min (Int.toNat (a : Int)) (IntKind.bits .i64)))).toNat)).bind fun k => some k)) else some false).bind fun j => some j))).bind fun i => (rF b d g h (a + 1) i))
def ri (m : List kd) (a0 : Formula) : List Bool → Nat → (List Bool) → (List Int) → Option (List Int)
 | [], _, b, c => some c
 | n :: g, a, b, c => ((tq m (a : Int)).bind fun i => ((sO a0 i).bind fun d => ((lN b (a : Int)).bind fun o => ((rF a b d m 0 false).bind fun j => ((lN (b.set (Int.toNat (a : Int)) d) (a : Int)).bind fun k => ((if k then some (!j) else some false).bind fun l => (if l then ((mZ 8 c ([(a : Int)])).bind fun h => (ri m a0 g (a + 1) (b.set (Int.toNat (a : Int)) d) h)) else (ri m a0 g (a + 1) (b.set (Int.toNat (a : Int)) d) c))))))))
def zl (a0 : Formula) (a : List kd) : Option (List Int) :=
 ((ot (decide (0 ≤ (a.length : Int)))).bind fun _ => ((An 1 false (wi0 .i64 (1 * 2 ^ min (Int.toNat (a.length : Int)) (IntKind.bits .i64)))).bind fun b => ri a a0 b 0 b ([])))
def zk (a0 : Int) : Option Bool :=
 some (a0 != a0)
def xQ (a0 a : Int) : Option Int :=
 ((zk a0).bind fun c => ((zk a).bind fun b => (if c then (if b then some 0 else some (-1)) else (if b then some 1 else (if (decide (a0 < a)) then some (-1) else (if (decide (a0 > a)) then some 1 else some 0))))))
def mo (d : List kd) (f2 : (kd × kd) → Option Int) (a0 : List kd) : List kd → Nat → Option Int
 | [], _ => (if (decide ((a0.length : Int) < (d.length : Int))) then some (-1) else some 0)
 | g :: c, i75 => (if (decide ((i75 : Int) ≥ (d.length : Int))) then some 1 else ((lN d (i75 : Int)).bind fun b => ((f2 (g, b)).bind fun a => (if (a != 0) then some a else (mo d f2 a0 c (i75 + 1))))))
def nz (a0 a : List kd) (f2 : (kd × kd) → Option Int) : Option Int :=
 mo a f2 a0 a0 0
def tR (a0 a : List kd) : Option Int :=
 ((xQ (a0.length : Int) (a.length : Int)).bind fun b => ((nz a0 a (fun (x : (kd × kd)) => nK x.1 x.2)).bind fun c => ((ua ([b, c])).bind fun d => some d)))
def uR (i : List kd) : List Int → (List (List kd)) → Option ((List (List kd)) × Int)
 | [], a => (if (decide ((a.length : Int) > 128)) then some ([], 12) else ((Fw (fun (x : ((List kd) × (List kd))) => tR x.1 x.2) a).bind fun g => some (g, 0)))
 | h :: b, a => ((tq i h).bind fun d => ((mZ 24 a ([d])).bind fun c => (uR i b c)))
def zg (a0 : Formula) : Option ((List (List kd)) × Int) :=
 ((ql a0).bind fun c => (if (!c) then some ([], 11) else ((uU a0).bind fun b => (if (decide ((b.length : Int) > 12)) then some ([], 12) else ((zl a0 b).bind fun a => uR b a ([]))))))
def tk (a0 : List kd) (f1 : kd → Option Bool) : Option Bool :=
 ((pU a0 f1).bind fun a => some (decide (a ≥ 0)))
def wV (a0 : kd) (a : kd → Option Bool) : Option Bool :=
 ((a a0).bind fun b => some (!b))
def wT (f1 : kd → Option Bool) : List (List kd) → Option ((List kd) × Bool)
 | [] => some ([], false)
 | b :: c => ((tk b (fun (x : kd) => wV x f1)).bind fun a => (if (!a) then some (b, true) else (wT f1 c)))
def zc (a0 : Formula) (f1 : kd → Option Bool) : Option ((List kd) × Bool) :=
 ((zg a0).bind fun a => ((if (a.2 != 0) then some true else some false).bind fun b => (if b then some ([], false) else wT f1 a.1)))
def tF (c : ((List ke) × (List (kd × (List (ByteArray × Bool)))) × (List ke) × (List (kd × (List ke))) × (List (ByteArray × (List ke))) × (List kk) × Int × ByteArray)) (i : lD) : List kd → (List kW) → Option ((List kW) × Bool)
 | [], a => some (a, true)
 | h :: b, a => ((vq c.1 (⟨h, i.Name⟩ : kk)).bind fun d => ((yw ([a, d.1])).bind fun g => (tF c i b g)))
def vE (a0 b : lD) (a2 : Formula) : Option ((List kW) × Bool) :=
 ((wg a0 b).bind fun a => ((sm a2 (fun (x : kd) => oX x a.2.1 a.2.2.1 a.2.2.2.1 a.2.2.2.2.1 a.2.2.2.2.2.1 a.2.2.2.2.2.2.1 a.2.2.2.2.2.2.2 b.kZ b.mu)).bind fun d => (if (!d) then some ([], false) else ((zc a2 (fun (x : kd) => oX x a.2.1 a.2.2.1 a.2.2.2.1 a.2.2.2.2.1 a.2.2.2.2.2.1 a.2.2.2.2.2.2.1 a.2.2.2.2.2.2.2 b.kZ b.mu)).bind fun c => (if (!c.2) then some ([], false) else tF a b c.1 ([]))))))
def wo  : Option Bool :=
 ((uj (⟨1, (⟨(⟨#[120]⟩ : ByteArray), (⟨#[122]⟩ : ByteArray)⟩ : kd), (⟨#[97]⟩ : ByteArray), (⟨zS, zS⟩ : kd), (⟨zS, zS⟩ : kd), zS⟩ : ke) (⟨2, 0, (⟨zS, zS⟩ : kd), []⟩ : Formula)).bind fun v => ((((sn (⟨(⟨#[120]⟩ : ByteArray), (⟨#[122]⟩ : ByteArray)⟩ : kd)).bind fun l => ((uj (⟨1, (⟨(⟨#[120]⟩ : ByteArray), (⟨#[121]⟩ : ByteArray)⟩ : kd), (⟨#[98]⟩ : ByteArray), (⟨zS, zS⟩ : kd), (⟨zS, zS⟩ : kd), zS⟩ : ke) l).bind fun m => some ((⟨#[98]⟩ : ByteArray), m, ([]), zS, ([]), ([])))) : Option (ByteArray × (List ml) × (List oZ) × ByteArray × (List ml) × (List oZ))).bind fun (c, a, b, y, w, x) => ((rb (⟨(⟨#[97]⟩ : ByteArray), v, []⟩ : lD) (⟨c, a, b⟩ : lD)).bind fun d => ((sn (⟨(⟨#[120]⟩ : ByteArray), (⟨#[121]⟩ : ByteArray)⟩ : kd)).bind fun g => ((vE (⟨(⟨#[97]⟩ : ByteArray), v, []⟩ : lD) (⟨c, a, b⟩ : lD) g).bind fun r417 => ((if ((d.1.length : Int) == 1) then some ((d.2.1.length : Int) == 1) else some false).bind fun n => ((if n then some (d.2.2 == 2) else some false).bind fun o => ((if o then ((sn (⟨(⟨#[120]⟩ : ByteArray), (⟨#[121]⟩ : ByteArray)⟩ : kd)).bind fun j => ((qk (⟨(⟨#[97]⟩ : ByteArray), v, []⟩ : lD) (⟨c, a, b⟩ : lD) j).bind fun k => some k)) else some false).bind fun p => ((if p then ((sn (⟨(⟨#[120]⟩ : ByteArray), (⟨#[122]⟩ : ByteArray)⟩ : kd)).bind fun h => ((qk (⟨(⟨#[97]⟩ : ByteArray), v, []⟩ : lD) (⟨c, a, b⟩ : lD) h).bind fun i => some (!i))) else some false).bind fun q => ((if q then some r417.2 else some false).bind fun r => ((if r then some ((r417.1.length : Int) == 1) else some false).bind fun s => ((if s then ((lN r417.1 0).bind fun u => some (nr u.ke (⟨1, (⟨(⟨#[120]⟩ : ByteArray), (⟨#[121]⟩ : ByteArray)⟩ : kd), (⟨#[98]⟩ : ByteArray), (⟨zS, zS⟩ : kd), (⟨zS, zS⟩ : kd), zS⟩ : ke))) else some false).bind fun t => some t))))))))))))
def uA (a0 c : lD) : Option Bool :=
 (wo.bind fun n => (if (!n) then some false else ((wv a0).bind fun o => ((wv c).bind fun p => (if (decide ((wi0 .i64 (o + p)) > 5000)) then some true else ((rb a0 c).bind fun a => ((rb c a0).bind fun b => ((uh a.1 b.2.1).bind fun q => ((if q then ((uh a.2.1 b.1).bind fun j => some j) else some false).bind fun r => ((if r then some (a.2.2 == b.2.2) else some false).bind fun s => ((if s then ((od a0 a.2.1 c.Name).bind fun h => ((uh h a.1).bind fun i => some i)) else some false).bind fun k => ((if k then ((od c a.1 a0.Name).bind fun d => ((uh d a.2.1).bind fun g => some g)) else some false).bind fun l => ((if l then some (decide (a.2.2 ≤ (wi0 .i64 ((a0.kZ.length : Int) + (c.kZ.length : Int))))) else some false).bind fun m => some m)))))))))))))
end
end Go.Proofs.YtklbhegeiijbjaaGreat
