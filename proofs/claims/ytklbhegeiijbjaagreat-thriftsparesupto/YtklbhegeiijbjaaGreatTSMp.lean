/- a part of a proof of ThriftSpares -/
import Derived.Test.YtklbhegeiijbjaaGreatRtVp
import Derived.Shelf.SlSortCmp.NoneTotal
import Derived.Shelf.SortM.Plain
import Derived.Shelf.SortM.SortNone
import Derived.Shelf.SlIter.Sorted
import Derived.Shelf.SlIter.Nil
import Derived.Test.YtklbhegeiijbjaaGreatProg
import Derived.KernelRfl
set_option linter.all false
namespace Go.Proofs.YtklbhegeiijbjaaGreat
open Go.RowKit
section
variable {dd : Bool}
def Br {α : Type} (R : su α) : mF → List Value → α → Prop := fun μ vs x => ∃ ys, vs = [.agg ys.toArray] ∧ R μ ys x
def wR {α β : Type} (R : su α) (S : su β) : mF → List Value → α × β → Prop := fun μ vs x => ∃ ys zs, vs = [.agg ys.toArray, .agg zs.toArray] ∧ R μ ys x.1 ∧ S μ zs x.2
theorem Br.mk {α : Type} {R : su α} {k : Nat} {μ μ' : mF} {ys : List Value} {x : α} (a : Deep R k) (h : R μ ys x) (b : mn μ μ') : Br R μ' [.agg ys.toArray] x := ⟨ys, rfl, a.mono _ _ _ _ b h⟩
theorem wR.mk {α β : Type} {R : su α} {S : su β} {k m : Nat} {μ μ' : mF} {ys zs : List Value} {x : α} {y : β} (c : Deep R k) (d : Deep S m) (h : R μ ys x) (b : S μ zs y) (a : mn μ μ') : wR R S μ' [.agg ys.toArray, .agg zs.toArray] (x, y) :=
 ⟨ys, zs, rfl, c.mono _ _ _ _ a h, d.mono _ _ _ _ a b⟩
def yo {α β : Type} (P : Program) (fv : Value) (μ : mF) (a : mF → List Value → α → Prop) (b : β → Value) (pm : α → Option β) : Prop :=
 ∃ f first caps, fv = .func (.func f) first caps ∧ (∀ args w, (callFunc f args).run P w = .ok (.enter f args) w) ∧ ∀ W x vs r, mn μ (hp W) → a (hp W) vs x → pm x = some r → mw false P f (first.toList ++ (vs ++ caps.toList)) W (b r)
theorem yo.form {α β : Type} {P : Program} {fv : Value} {μ : mF} {c : mF → List Value → α → Prop} {d : β → Value} {pm : α → Option β} (h : yo P fv μ c d pm) : ∃ f a b, fv = .func f a b := let ⟨f, a, b, h, _⟩ := h; ⟨_, a, b, h⟩
end
section
variable {P : Program} {W : World} {E : Nat → Value} {d : Option Nat} {ty : TypeId} {pos : String} {af : Array Edge} {g : Option (Nat × Bool)} {F : Nat → Prop} {w : World} {μ μ0 : mF} {L : List (Nat × Obj)}
theorem yo.mono {α β : Type} {fv : Value} {a : mF → List Value → α → Prop} {b : β → Value} {pm : α → Option β} (h : yo P fv μ a b pm) (g : mn μ μ0) : yo P fv μ0 a b pm := by
 obtain ⟨f, first, caps, h1, c, d⟩ := h
 exact ⟨f, first, caps, h1, c, fun W x vs r h => d W x vs r (g.trans h)⟩
theorem zO {α β : Type} {K : Value → World → Prop} {fv : Value} {i : mF → List Value → α → Prop} {j : β → Value} {pm : α → Option β} {b : Operand} {ax : Array Operand} {ats : Array TypeId} (x : α) {vs : List Value} {r : β} (a : ST false F w W μ L) (q : yo P fv μ0 i j pm) (t : mn μ0 μ) (o : i (hp W) vs x) (s : lV E b = fv) (ha : ax.map (lV E) ++ (#[] : Array Value) = vs.toArray) (hm : pm x = some r) (h : ∀ W', ST false F w W' μ L → K (j r) W') : pa P E ⟨d, .call ⟨.value b, ax, ats⟩, ty, pos, af, g⟩ W K := by
 obtain ⟨f, first, caps, rfl, k, l⟩ := q
 have c : ax.map (lV E) = vs.toArray := by simpa using ha
 refine .inr (.inr ⟨f, (first.toList ++ (vs ++ caps.toList)).toArray, ?_, dS (l W x vs r (t.trans a.lJ) o hm) (fun _ _ ⟨m, n⟩ => ⟨_, m, h _ (a.IK n)⟩)⟩)
 show (do let d ← resolve (lV E) ⟨.value b, ax, ats⟩ ty; invoke d.target d.args : Sem Next).run P W = _
 simp only [resolve, s, Deferred.ofValue, cI, dJ, bR, invoke, c, k]
 congr 2
 simp
end
section
variable {dd : Bool}
variable {β : Type} {Rl : su β} {k : Nat} {μ : mF} {v : Value} {l : List β} {e : TypeId} {B : List (Nat × Obj)}
variable {F : Nat → Prop} {w W : World} {L : List (Nat × Obj)}
variable {P : Program} {E : Nat → Value} {d : Option Nat} {ty : TypeId} {pos : String} {af : Array Edge} {g : Option (Nat × Bool)}
theorem Lz {α : Type} {enc : α → List Value} (hk : ∀ x, (enc x).length = k) (c : 0 < k) (d : ∀ x y, enc x = enc y → x = y) : ∀ {l m : List α}, (l.map enc).flatten = (m.map enc).flatten → l = m
 | [], [], _ => rfl
 | [], b :: m, h => by
  have := bA List.length h
  simp only [gW, dI, bV, bM, bQ, aC, hk] at this
  omega
 | a :: l, [], h => by
  have := bA List.length h
  simp only [gW, dI, bV, bM, bQ, aC, hk] at this
  omega
 | a :: l, b :: m, h => by
  simp only [bM, bQ] at h
  obtain ⟨h1, g⟩ := List.append_inj h (by rw [hk, hk])
  rw [d _ _ h1, Lz hk c d g]
theorem Vs (x y : yV k) (h : xw x = xw y) : x = y := Subtype.ext h
theorem my.pre {v1 : Value} {cl a : List (yV k)} (d : 0 < k) (h : my e xw k v cl B) (h1 : my e xw k v1 a B) (c : a.length ≤ cl.length) : a = cl.take a.length := by
 rcases h with ⟨rfl, rfl, rfl⟩ | ⟨q, cap, b, rfl, rfl, r, s, t, n⟩
 ·simp at c; simp [c]
 ·rcases h1 with ⟨_, _, h⟩ | ⟨g1, g, i, rfl, j, o, a2, a3, a4⟩
  ·cases h
  ·cases j
   refine Lz BX d Vs ?_
   rw [← a4]
   have hle : a.length * k ≤ cl.length * k := cU _ c
   have : b.toList.take (a.length * k) = (b.toList.take (cl.length * k)).take (a.length * k) := by rw [jd, dT hle]
   rw [this, n]
   have l : (cl.map xw).flatten = ((cl.take a.length).map xw).flatten ++ ((cl.drop a.length).map xw).flatten := by rw [← cW, ← cF, jq]
   have m : ((cl.take a.length).map xw).flatten.length = a.length * k := by rw [sk BX, dB, dT c]
   rw [l, ← m, List.take_left]
theorem rJ.replicate {α β : Type} {Q : α → β → Prop} {a : α} {b : β} (h : Q a b) : ∀ n, rJ Q (List.replicate n a) (List.replicate n b)
 | 0 => .nil
 | n + 1 => .cons h (rJ.replicate h n)
theorem rJ.Vr {α β : Type} {Q : α → β → Prop} {l : List α} {m : List β} (h : rJ Q l m) {a : α} {b : β} (c : Q a b) (i : Nat) : rJ Q (pL l i a) (pL m i b) := by
 unfold pL
 rw [h.length]
 exact (h.take i).append (rJ.replicate c _)
theorem IJ {t e' : TypeId} {x ih : Operand} {s : IntKind} {i : Int} (q : P.underlying t = some (.slice e')) (he : ∀ w, (sizeOf e').run P w = .ok k w) (r : lV E x = v) (n : lV E ih = .int s i) (h : nl e Rl k μ v l B) (c : 0 ≤ i) (o : i ≤ l.length) :
  ∃ a, nl e Rl k μ a (l.take i.toNat) B ∧ ∀ W, oa P E ⟨d, .slice t x none (some ih) none, ty, pos, af, g⟩ W a W := by
 obtain ⟨cl, h1, b⟩ := h
 obtain ⟨a, j, m⟩ := wA (d := d) (ty := ty) (pos := pos) (af := af) (g := g) q he r n h1 BX c (by rw [b.length]; exact o)
 exact ⟨a, ⟨_, j, b.take _⟩, m⟩
theorem CO {t e' : TypeId} {x a : Operand} {q : IntKind} {i : Int} (n : P.underlying t = some (.slice e')) (he : ∀ w, (sizeOf e').run P w = .ok k w) (o : lV E x = v) (j : lV E a = .int q i) (h : nl e Rl k μ v l B) (b : 0 ≤ i) (m : i ≤ l.length) :
  ∃ u, Cs k v i.toNat u ∧ ∀ W, oa P E ⟨d, .slice t x (some a) none none, ty, pos, af, g⟩ W u W := by
 obtain ⟨cl, h1, c⟩ := h
 exact wQ n he o j h1 b (by rw [c.length]; exact m)
theorem N7 {t e' : TypeId} {x : Operand} {u : Value} {i : Nat} (b : P.underlying t = some (.slice e')) (c : lV E x = u) (hu : Cs k v i u) (h : nl e Rl k μ v l B) : oa P E ⟨d, .call ⟨.builtin .len, #[x], #[t]⟩, ty, pos, af, g⟩ W (.int .i64 ((l.length - i : Nat) : Int)) W := by
 obtain ⟨cl, h1, a⟩ := h
 rw [← a.length]
 exact Gg b c hu h1
theorem Dc {t e' : TypeId} {x j : Operand} {G : IntKind} {i : Int} {x0 : β} {u : Value} {o : Nat} {A : List Value → Prop} (y : ∀ {ys}, Rl μ ys x0 → A ys) (D : P.underlying t = some (.slice e')) (he : ∀ w, (sizeOf e').run P w = .ok k w) (F : lV E x = u) (r : lV E j = .int G i) (h : nl e Rl k μ v l B) (hu : Cs k v o u) (m : 0 ≤ i) (s : (l.drop o)[i.toNat]? = some x0) :
  ∃ p, (∃ ys, A ys ∧ At (Bn B) p ys ∧ CD B k p (o + i.toNat)) ∧ ∀ W, oa P E ⟨d, .indexAddr t x j, ty, pos, af, g⟩ W p W := by
 obtain ⟨cl, h1, n⟩ := h
 obtain ⟨c, b, z⟩ := (n.drop o).get s
 obtain ⟨p, a, q⟩ := wT (d := d) (ty := ty) (pos := pos) (af := af) (g := g) D he F r h1 hu m b
 exact ⟨p, ⟨c.1, y z, a.at h1 BX (yI b), a⟩, q⟩
theorem F4 {K : Value → World → Prop} {z : β} {zs : List Value} {Y : List (Nat × Obj)} {t e' : TypeId} {x : Operand} {u c : Value} {i : Nat} (n : Deep Rl k) (b : ST dd F w W μ (B ++ Y)) (h : nl e Rl k μ v l B) (a : Rl μ zs z) (r : P.underlying t = some (.slice e')) (y : ∀ w, (zeroValue e').run P w = .ok c w) (hu : Cs k v i u) (q : c.cells = zs.toArray) (s : lV E x = u) (o : ∀ W' R', ST dd F w W' μ (R' ++ Y) → nl e Rl k μ v (pL l i z) R' → K (.tuple #[]) W') : pa P E ⟨d, .call ⟨.builtin .clear, #[x], #[t]⟩, ty, pos, af, g⟩ W K := by
 obtain ⟨cl, h1, m⟩ := h
 exact zJ (n.cell a) b h1 BX QD r y hu q s (fun W' R' j a2 => o W' R' j ⟨_, a2, m.Vr a i⟩)
end
section
variable {P : Program} {W : World} {E : Nat → Value} {d : Option Nat} {ty : TypeId} {pos : String} {af : Array Edge} {g : Option (Nat × Bool)}
theorem Qe {c m : TypeId} {x y : Operand} {fv : Value} {s u : Array TypeId} {bb : Bool} (j : P.underlying c = some (.func s u bb)) (h : ∃ f a b, fv = .func f a b) (k : lV E x = fv) (l : lV E y = .nilFunc) :
  oa P E ⟨d, .binOp .neq c x y m, ty, pos, af, g⟩ W (.bool true) W := by
 obtain ⟨f, a, b, rfl⟩ := h
 show (do let r ← (do eqGuard .neq c x y (lV E x) (lV E y); binOp .neq c (lV E x) (lV E y)); pure (.value r) : Sem Next).run P W = _
 rw [k, l]
 have i := HP 9999 j f a b W
 simp [eqGuard, binOp, Op.equal, show Op.maxDepth = 9999 + 1 from rfl, i]
end
end Go.Proofs.YtklbhegeiijbjaaGreat
namespace Go.Proofs.YtklbhegeiijbjaaGreat
open Go.RowKit
theorem bS {α β : Type} {m : Option α} {f : α → Option β} {r : β} {G : Prop} (h : m.bind f = some r) (k : ∀ x, m = some x → f x = some r → G) : G :=
 let ⟨x, a, b⟩ := bind_some h
 k x a b
theorem sj {α : Type} {a b : α} (h : some a = some b) : a = b := gC h
theorem bC {α : Type} {b : Bool} {x y r : α} {G : Prop} (h : (if b = true then x else y) = r) (a : b = true → x = r → G) (k2 : b = false → y = r → G) : G := by
 rcases OQ b with e | e
 ·exact a e (TQ e h)
 ·exact k2 e (TU e h)
theorem cB {a b : Bool} (h : a = b) : Value.bool a = Value.bool b := bA Value.bool h
theorem nb {a b : Nat} (h : Nat.ble a b = true := by exact rfl) : a ≤ b := Nat.le_of_ble_eq_true h
def U8 : Nat → Nat → List Bool
 | 0, _ => []
 | n + 1, m => (m % 2 == 1) :: U8 n (m / 2)
def bm (n m : Nat) : Array Bool := (U8 n m).toArray
section
variable {P : Program} {n : Nat} {Q : tb} {E : Nat → Value} {W : World}
theorem CI {α : Type} {co : Operand} {b : Bool} {x y : Code} {A B r : α} (hm : (if b = true then A else B) = r) (a : lV E co = .bool b) (d : b = true → A = r → CW P n x Q E W) (c : b = false → B = r → CW P n y Q E W) : CW P n (.cond co x y) Q E W :=
 Ou a (fun e => d e (TQ e hm)) (fun e => c e (TU e hm))
theorem CJ {c ρ : Type} {m : Option c} {k : c → Option ρ} {r : ρ} {x : Code} {K : (Nat → Value) → World → Prop} (hm : m.bind k = some r) (I : c → (Nat → Value) → World → Prop) (h1 : ∀ s, m = some s → CW P n x (ta (I s) Q) E W) (d : ∀ s E W, I s E W → k s = some r → K E W) : CW P n x (ta K Q) E W :=
 let ⟨s, a, b⟩ := bind_some hm
 PL (I s) (h1 s a) (fun E W h => d s E W h b)
theorem PM {d ρ c : Type} {m : Option (c ⊕ d)} {k : c ⊕ d → Option ρ} {r : ρ} {x : Code} {K : (Nat → Value) → World → Prop} (hm : m.bind k = some r) (I : d → (Nat → Value) → World → Prop) (h1 : ∀ s, m = some s → k s = some r → CW P n x (ta (fun E W => ∃ t, s = .inr t ∧ I t E W) Q) E W) (g : ∀ s E W, I s E W → k (.inr s) = some r → K E W) : CW P n x (ta K Q) E W :=
 let ⟨s, a, b⟩ := bind_some hm
 PL (fun E W => ∃ t, s = .inr t ∧ I t E W) (h1 s a b) (fun E W ⟨t, e, h⟩ => g t E W h (by subst e; exact b))
theorem LJ {c ρ : Type} {m : Option c} {k : c → Option ρ} {r : ρ} {ops : Array Oper} {rest : List Oper} (hm : m.bind k = some r) (I : c → (Nat → Value) → World → Prop) (j : Nat) (d : ∀ s E W, I s E W → k s = some r → LW P n ops Q (rest.drop j) E W) (h1 : ∀ s, m = some s → (∀ E W, I s E W → LW P n ops Q (rest.drop j) E W) → LW P n ops Q rest E W) : LW P n ops Q rest E W :=
 let ⟨s, a, b⟩ := bind_some hm
 h1 s a (fun E W h => d s E W h b)
theorem PJ {c ρ : Type} {m : Option c} {k : c → Option ρ} {r : ρ} {ops : Array Oper} {S : Array Bool → World → Prop} {fuel : Nat} {listed : Array Bool} (hm : m.bind k = some r) (I : c → (Nat → Value) → World → Prop) (g : Array Bool) (d : Nat) (i : ∀ s E W, I s E W → k s = some r → PX P n ops Q S d g E W) (h1 : ∀ s, m = some s → (∀ E W, I s E W → PX P n ops Q S d g E W) → PX P n ops Q S fuel listed E W) : PX P n ops Q S fuel listed E W :=
 let ⟨s, a, b⟩ := bind_some hm
 h1 s a (fun E W h => i s E W h b)
end
section
variable {dd : Bool} {P : Program} {fn : Func} {E : Nat → Value} {W w : World} {μ : mF} {L : List (Nat × Obj)}
theorem rP {t : Tmp} {v : Value} (a : ST dd mX w W μ L) (b : fn.results = #[.tmp t] := by exact rfl) (c : E t = v := by exact rfl) : AL P fn (fun e W' => e = .returned v ∧ Ex dd w W') .ret E W := ng b c ⟨rfl, a.ex⟩
end
theorem ST.GG {dd : Bool} {F : Nat → Prop} {w W : World} {μ : mF} {x : Nat × Obj} {L : List (Nat × Obj)} (h : ST dd F w W μ (x :: L)) : ST dd F w W μ ([x] ++ L) := h
theorem ST.TR {dd : Bool} {F : Nat → Prop} {w W : World} {μ : mF} {L : List (Nat × Obj)} (h : ST dd F w W μ L) : ST dd F w W μ ([] ++ L) := h
theorem aL {E : Nat → Value} {ax : Array Operand} {l : List Value} (h : ax.toList.map (lV E) = l) : ax.map (lV E) ++ (#[] : Array Value) = l.toArray := by subst h; apply Array.ext'; simp
section
variable {dd : Bool}
variable {P : Program} {E : Nat → Value} {W : World} {d : Option Nat} {ty : TypeId} {pos : String} {af : Array Edge} {g : Option (Nat × Bool)}
 {F : Nat → Prop} {w : World} {μ : mF} {L : List (Nat × Obj)}
variable {f : FuncId} {fv : Operand} {ax : Array Operand} {ats : Array TypeId} {args : List Value} {v : Value} {K : Value → World → Prop}
theorem Eg (a : ST dd F w W μ L) (he : ∀ args w, (callFunc f args).run P w = .ok (.enter f args) w) (b : mw dd P f args W v) (h : ∀ W', ST dd F w W' μ L → K v W') (c : lV E fv = .func (.func f) #[] #[] := by exact rfl) (ha : ax.toList.map (lV E) = args := by exact rfl) : pa P E ⟨d, .call ⟨.value fv, ax, ats⟩, ty, pos, af, g⟩ W K := Np a c he (aL ha) b h
theorem pF {α : Type} {e : TypeId} {enc : α → List Value} {k : Nat} {l : List α} {Y : List (Nat × Obj)} (a : ST dd F w W μ Y) (he : ∀ args w, (callFunc f args).run P w = .ok (.enter f args) w) (b : nC dd P f args W e enc k l) (h : ∀ W' v μ' R, ST dd F w W' μ' (R ++ Y) → mn μ μ' → Lo F w μ μ' → my e enc k v l R → K v W') (c : lV E fv = .func (.func f) #[] #[] := by exact rfl) (ha : ax.toList.map (lV E) = args := by exact rfl) : pa P E ⟨d, .call ⟨.value fv, ax, ats⟩, ty, pos, af, g⟩ W K := NT _ a c he (aL ha) b h
theorem FO {K' : Value → List (Nat × Obj) → World → Prop} {L0 L2 : List (Nat × Obj)} (i : ST dd F w W μ L) (j : L.Perm (L0 ++ L2)) (he : ∀ args w, (callFunc f args).run P w = .ok (.enter f args) w) (k : GH L0 W → (L0.map (·.1)).Nodup → mn μ (wm W L0) → (∀ b o, (b, o) ∈ L2 → wm W L0 b = some o) → nH dd P f args W L0 K') (h : ∀ W' v μ' L1, ST dd F w W' μ' (L1 ++ L2) → mn μ μ' → Lo F w μ μ' → (∀ b, W.heap.size ≤ b → ∀ o, wm W' L1 b = some o → μ' b = some o) → K' v L1 W' → K v W') (l : lV E fv = .func (.func f) #[] #[] := by exact rfl) (ha : ax.toList.map (lV E) = args := by exact rfl) : pa P E ⟨d, .call ⟨.value fv, ax, ats⟩, ty, pos, af, g⟩ W K :=
 Si L0 L2 i j l he (aL ha) (fun a b c d => by have := k a b c d; simpa using this) h
theorem NI {K' : Value → List (Nat × Obj) → mF → Prop} {L0 L2 : List (Nat × Obj)} (i : ST dd F w W μ L) (j : L.Perm (L0 ++ L2)) (he : ∀ args w, (callFunc f args).run P w = .ok (.enter f args) w) (k : GH L0 W → (L0.map (·.1)).Nodup → mn μ (wm W L0) → (∀ b o, (b, o) ∈ L2 → wm W L0 b = some o) → nM dd P f args W μ L0 K') (h : ∀ W' v μ' L1, ST dd F w W' μ' (L1 ++ L2) → mn μ μ' → Lo F w μ μ' → K' v L1 μ' → K v W') (l : lV E fv = .func (.func f) #[] #[] := by exact rfl) (ha : ax.toList.map (lV E) = args := by exact rfl) : pa P E ⟨d, .call ⟨.value fv, ax, ats⟩, ty, pos, af, g⟩ W K :=
 Ms L0 L2 i j l he (aL ha) (fun a b c d => by have := k a b c d; simpa using this) h
end
section
variable {E : Nat → Value} {x1 x2 x3 x4 x5 x6 x7 x8 : Operand} {v1 v2 v3 v4 v5 v6 v7 v8 : Value}
theorem VY (h1 : lV E x1 = v1) : [x1].map (lV E) = [v1] := by rw [← h1]; rfl
theorem VL (h1 : lV E x1 = v1) (a : lV E x2 = v2) : [x1, x2].map (lV E) = [v1, v2] := by rw [← h1, ← a]; rfl
end
end Go.Proofs.YtklbhegeiijbjaaGreat
namespace Go.Proofs.YtklbhegeiijbjaaGreat
open Go.RowKit
def VU (R : List (Nat × Obj)) (k : Nat) (p : Value) (i a : Nat) : Prop := ∃ g o, R = [(g, o)] ∧ p = .pointer (some ⟨g, i * k + a, none⟩)
theorem CD.f {R : List (Nat × Obj)} {k : Nat} {p : Value} {i : Nat} (h : CD R k p i) : VU R k p i 0 := h
section
variable {P : Program} {E : Nat → Value} {W : World} {d : Option Nat} {ty : TypeId} {pos : String} {af : Array Edge} {g : Option (Nat × Bool)}
 {dd : Bool} {F : Nat → Prop} {w : World} {μ : mF} {L : List (Nat × Obj)} {α : Type} {e' : TypeId} {enc : α → List Value} {k : Nat} {v : Value} {l : List α} {R : List (Nat × Obj)}
theorem my.put (h : my e' enc k v l R) (hk : ∀ x, (enc x).length = k) {p : Value} {i : Nat} (hp : CD R k p i) {x0 : α} (r : l[i]? = some x0) (x1 : α) :
  ∃ g a, R = [(g, .cells a e' (0, 0))] ∧ p = .pointer (some ⟨g, i * k, none⟩) ∧ i * k + k ≤ a.size ∧ (∀ j y, (enc x0)[j]? = some y → a[i * k + j]? = some y) ∧
   my e' enc k v (l.set i x1) [(g, .cells (a.toList.take (i * k) ++ enc x1 ++ a.toList.drop (i * k + k)).toArray e' (0, 0))] := by
 have m : i < l.length := (bK.1 r).1
 obtain ⟨o, a, cap, rfl, rfl, q, u, d, w, rfl, z⟩ := CG h hk hp r
 have hle : i * k + k ≤ cap * k := by
  have : (i + 1) * k ≤ cap * k := cU _ (by omega)
  rwa [cT, lj] at this
 have b : i * k + k ≤ l.length * k := by
  have : (i + 1) * k ≤ l.length * k := cU _ (by omega)
  rwa [cT, lj] at this
 have hlen : l.length * k ≤ cap * k := cU _ q
 refine ⟨o, a, rfl, rfl, by rw [d]; exact hle, z, .inr ⟨o, cap, _, by simp, rfl, by simpa using q, u, ?_, ?_⟩⟩
 ·show ((a.toList.take (i * k) ++ (enc x1) ++ a.toList.drop (i * k + k)).toArray).size = _
  have c : a.toList.length = cap * k := by simpa using d
  rw [eA, aC, aC, dB, js, hk, c, dT (by omega)]; omega
 ·rw [jF, HN hk l i x1 m, ← w]
  have s : (a.toList.take (l.length * k)).take (i * k) = a.toList.take (i * k) := by rw [jd]; congr 1; omega
  have t : (a.toList.take (l.length * k)).drop (i * k + k) = (a.toList.drop (i * k + k)).take (l.length * k - (i * k + k)) := by rw [jQ]
  rw [s, t]
  show List.take (l.length * k) (a.toList.take (i * k) ++ enc x1 ++ a.toList.drop (i * k + k)) = _
  have c : a.toList.length = cap * k := by simpa using d
  have n : (a.toList.take (i * k) ++ enc x1).length = i * k + k := by rw [aC, dB, hk, c, dT (by omega)]
  rw [gQ, cX (by rw [n]; exact b), n]
end
end Go.Proofs.YtklbhegeiijbjaaGreat
namespace Go.Proofs.YtklbhegeiijbjaaGreat
open Go.RowKit
theorem oc {v : Value} (h : v.cells.toList.all Value.oneCell' = true := by exact rfl) : ∀ u ∈ v.cells.toList, u.oneCell' = true := kT.1 h
theorem dc {p : Prop} [Decidable p] (h : p := by decide) : p := h
theorem kr {p : Prop} (h : p := by kernel_rfl) : p := h
theorem br {α : Sort _} {a b : α} (h : a = b := by rfl) : a = b := h
abbrev LO := List (Nat × Obj)
abbrev Ob (c : Array Value) (t : TypeId) : Obj := .cells c t (0, 0)
abbrev Ol (c : List Value) (t : TypeId) : Obj := .cells c.toArray t (0, 0)
theorem oR {P : Program} {t e : TypeId} {m k : Nat} {z : Value} {a : Array (Nat × Value)} {cs : Array Value} (i : P.underlying t = some (.slice e)) (g : ∀ w, (sizeOf e).run P w = .ok k w) (l : ∀ w, (zeroValue e).run P w = .ok z w) (hm : m * k ≤ 16777216 := by decide) (d : a.toList = (a.toList.map (·.2)).zipIdx.map (fun p => (p.2, p.1)) := by exact rfl) (j : (a.toList.map (·.2)).all (fun v => v.cells.size == k) = true := by exact rfl) (c : (a.toList.map (·.2)).length = m := by exact rfl) (b : ((a.toList.map (·.2)).flatMap (fun v => v.cells.toList)).toArray = cs := by exact rfl) (W : World) :
  (Instr.buildSlice t m a).run P W = .ok (.slice (some ⟨W.heap.size, 0, none⟩) m m) (W.alloc (.cells cs e (0, 0))) :=
 Au _ i g l hm d (fun v h => eq_of_beq (kT.1 j v h)) c b W
section
variable {dd : Bool} {P : Program} {fn : Func} {E : Nat → Value} {W w : World} {μ : mF} {L L0 : List (Nat × Obj)}
theorem rQ {α : Type} {f : α → Value} {a r : α} {t : Tmp} (hm : some a = some r) (b : ST dd mX w W μ L) (c : fn.results = #[.tmp t] := by exact rfl) (d : E t = f a := by exact rfl) : AL P fn (fun e W' => e = .returned (f r) ∧ Ex dd w W') .ret E W := by
 obtain rfl := sj hm; exact ng c d ⟨rfl, b.ex⟩
theorem cG (n : Nat) {f : FuncId} {c : Code} {args : List Value} {v : Value} (a : P.funcs[f]? = some fn) (b : fn.body = some c) (h : ST dd mX w w (hp w) [] → CW P n c (AL P fn (fun e i => e = .returned v ∧ Ex dd w i)) (EW args) w) (g : fn.ntmps = n := by exact rfl) (d : args.length ≤ n := by exact nb) : mw dd P f args w v := BC a b g d (h (ST.start w))
theorem vV {K : Value → List (Nat × Obj) → World → Prop} (n : Nat) {f : FuncId} {c : Code} {args : List Value} (a : P.funcs[f]? = some fn) (d : fn.body = some c) (h : ST dd mX w w (hp w) [] → CW P n c (AL P fn (fun e b => ∃ v L1, e = .returned v ∧ wu dd [] L1 w b ∧ K v L1 b)) (EW args) w) (i : fn.ntmps = n := by exact rfl) (g : args.length ≤ n := by exact nb) : nH dd P f args w [] K := BC a d i g (h (ST.start w))
theorem AF {K : Value → List (Nat × Obj) → World → Prop} (d : po μ L0 w) (n : Nat) {f : FuncId} {c : Code} {args : List Value} (a : P.funcs[f]? = some fn) (g : fn.body = some c) (h : ST dd (keys L0) w w μ L0 → CW P n c (AL P fn (fun e b => ∃ v L1, e = .returned v ∧ wu dd L0 L1 w b ∧ K v L1 b)) (EW args) w) (j : fn.ntmps = n := by exact rfl) (i : args.length ≤ n := by exact nb) : nH dd P f args w L0 K := BC a g j i (h (ST.P5 d))
theorem vA {K : Value → List (Nat × Obj) → mF → Prop} (d : po μ L0 w) (n : Nat) {f : FuncId} {c : Code} {args : List Value} (a : P.funcs[f]? = some fn) (g : fn.body = some c) (h : ST dd (keys L0) w w μ L0 → CW P n c (AL P fn (fun e b => ∃ v L1 μ1, e = .returned v ∧ wu dd L0 L1 w b ∧ mn μ μ1 ∧ Lo (keys L0) w μ μ1 ∧ mn μ1 (wm b L1) ∧ K v L1 μ1)) (EW args) w) (j : fn.ntmps = n := by exact rfl) (i : args.length ≤ n := by exact nb) : nM dd P f args w μ L0 K := BC a g j i (h (ST.P5 d))
end
section
variable {dd : Bool}
variable {P : Program} {E : Nat → Value} {W : World} {d : Option Nat} {ty : TypeId} {pos : String} {af : Array Edge} {g : Option (Nat × Bool)}
 {F : Nat → Prop} {w : World} {μ : mF} {L : List (Nat × Obj)}
variable {f : FuncId} {fv : Operand} {ax : Array Operand} {ats : Array TypeId} {args : List Value} {v : Value} {K : Value → World → Prop}
theorem eM {K' : Value → List (Nat × Obj) → World → Prop} {L0 L2 : List (Nat × Obj)} (i : ST dd F w W μ L) (j : L.Perm (L0 ++ L2)) (he : ∀ args w, (callFunc f args).run P w = .ok (.enter f args) w) (k : po (wm W L0) L0 W → mn μ (wm W L0) → nH dd P f args W L0 K') (h : ∀ W' v μ' L1, ST dd F w W' μ' (L1 ++ L2) → mn μ μ' → Lo F w μ μ' → (∀ b, W.heap.size ≤ b → ∀ o, wm W' L1 b = some o → μ' b = some o) → K' v L1 W' → K v W') (l : lV E fv = .func (.func f) #[] #[] := by exact rfl) (ha : ax.toList.map (lV E) = args := by exact rfl) : pa P E ⟨d, .call ⟨.value fv, ax, ats⟩, ty, pos, af, g⟩ W K :=
 FO i j he (fun a b c _ => k ⟨a, b, mn.refl _⟩ c) h l ha
theorem eD {K' : Value → List (Nat × Obj) → mF → Prop} {L0 L2 : List (Nat × Obj)} (i : ST dd F w W μ L) (j : L.Perm (L0 ++ L2)) (he : ∀ args w, (callFunc f args).run P w = .ok (.enter f args) w) (k : po μ L0 W → nM dd P f args W μ L0 K') (h : ∀ W' v μ' L1, ST dd F w W' μ' (L1 ++ L2) → mn μ μ' → Lo F w μ μ' → K' v L1 μ' → K v W') (l : lV E fv = .func (.func f) #[] #[] := by exact rfl) (ha : ax.toList.map (lV E) = args := by exact rfl) : pa P E ⟨d, .call ⟨.value fv, ax, ats⟩, ty, pos, af, g⟩ W K :=
 NI i j he (fun a b c _ => k ⟨a, b, c⟩) h l ha
end
def Pt (op : BinOp) : Value → Value → Option Value
 | .int k a, .int k' b => if k = k' then KS k op a b else none
 | _, _ => none
def TS (i : Nat) : Value → Option Value
 | .tuple vs => vs[i]?
 | _ => none
def KW : Value → Bool
 | .pointer (some ⟨_, _, none⟩) => true
 | _ => false
def TG (o : Nat) : Value → Value
 | .pointer (some ⟨b, k, none⟩) => .pointer (some ⟨b, k + o, none⟩)
 | v => v
theorem Ka {v : Value} (h : KW v = true) : ∃ b k, v = .pointer (some ⟨b, k, none⟩) := by
 unfold KW at h; split at h
 ·exact ⟨_, _, rfl⟩
 ·cases h
section
variable {P : Program} {n : Nat} {Q : tb} {E : Nat → Value} {W : World} {ops : Array Oper} {rest : List Oper}
 {d j t : Nat} {want b : Bool} {v : Value} {ins : Go.Op} {ty : TypeId} {pos : String} {af : Array Edge} {A : Value → Prop} {x y : Operand}
theorem Wm (h : LW P n ops Q rest (qm E d (lV E x)) W) (a : d < n := by decide) : LW P n ops Q (⟨some d, .move x, ty, pos, af, none⟩ :: rest) E W := V (lO rfl) h a
theorem Wa (h : LW P n ops Q rest (qm E d (lV E x)) W) (a : d < n := by decide) : LW P n ops Q (⟨some d, .assign x, ty, pos, af, none⟩ :: rest) E W := V (oL rfl) h a
theorem Wh (b : lV E x = v) (h : LW P n ops Q rest (qm E d v) W) (a : d < n := by decide) : LW P n ops Q (⟨some d, .move x, ty, pos, af, none⟩ :: rest) E W := V (lO b) h a
theorem Wg (b : lV E x = v) (h : LW P n ops Q rest (qm E d v) W) (a : d < n := by decide) : LW P n ops Q (⟨some d, .assign x, ty, pos, af, none⟩ :: rest) E W := V (oL b) h a
theorem Wx {i : Nat} (a : TS i (lV E x) = some v) (h : LW P n ops Q rest (qm E d v) W) (b : d < n := by decide) : LW P n ops Q (⟨some d, .extract x i, ty, pos, af, none⟩ :: rest) E W := by
 unfold TS at a; split at a
 ·rename_i vs e; exact V (wG e a) h b
 ·cases a
theorem Wi {op : BinOp} {m l : TypeId} (c : Pt op (lV E x) (lV E y) = some v) (h : LW P n ops Q rest (qm E d v) W) (j : d < n := by decide) : LW P n ops Q (⟨some d, .binOp op m x y l, ty, pos, af, none⟩ :: rest) E W := by
 unfold Pt at c; split at c
 ·rename_i k a k' b g i
  split at c
  ·rename_i e; subst e; exact V (mU g i c) h j
  ·cases c
 ·cases c
theorem Wf {t : TypeId} {f off : Nat} (a : nu P t f off) (h : LW P n ops Q rest (qm E d (TG off (lV E x))) W) (hp : KW (lV E x) = true := by exact rfl) (c : d < n := by decide) : LW P n ops Q (⟨some d, .fieldAddr t x f, ty, pos, af, none⟩ :: rest) E W := by
 obtain ⟨b, k, e⟩ := Ka hp
 refine V (lN a e) ?_ c
 rw [e] at h; exact h
theorem Wn (h : LW P n ops Q rest (qm E d (lV E x)) W) (hp : KW (lV E x) = true := by exact rfl) (a : d < n := by decide) : LW P n ops Q (⟨some d, .nilCheck x, ty, pos, af, none⟩ :: rest) E W := by
 obtain ⟨b, k, e⟩ := Ka hp
 refine V (nN e) ?_ a
 rw [e] at h; exact h
theorem un (h : b = !want) (k : LW P n ops Q rest (qm E d undef) W) (c : (ops[j]?).bind (·.dst) = some t := by exact rfl) (a : E t = .bool b := by exact rfl) (i : t < n := by decide) (g : d < n := by decide) :
  LW P n ops Q (⟨some d, ins, ty, pos, af, some (j, want)⟩ :: rest) E W := Vn c (by rw [a, h]) k i g
theorem ug (h : b = want) (i : oa P E ⟨some d, ins, ty, pos, af, some (j, want)⟩ W v W) (k : LW P n ops Q rest (qm E d v) W) (c : (ops[j]?).bind (·.dst) = some t := by exact rfl) (a : E t = .bool b := by exact rfl) (l : t < n := by decide) (g : d < n := by decide) :
  LW P n ops Q (⟨some d, ins, ty, pos, af, some (j, want)⟩ :: rest) E W := Vg c (by rw [a, h]) i k l g
theorem uJ (h : b = want) (k : pa P E ⟨some d, ins, ty, pos, af, some (j, want)⟩ W fun v W' => LW P n ops Q rest (qm E d v) W') (c : (ops[j]?).bind (·.dst) = some t := by exact rfl) (a : E t = .bool b := by exact rfl) (i : t < n := by decide) (g : d < n := by decide) :
  LW P n ops Q (⟨some d, ins, ty, pos, af, some (j, want)⟩ :: rest) E W := P0 c (by rw [a, h]) k i g
section
variable {dd : Bool} {F : Nat → Prop} {w : World} {μ : mF} {L : List (Nat × Obj)} {T : TypeId} {a off : Nat} {cs : Array Value} {fr : Nat × Nat}
theorem VA {t : TypeId} (b : ST dd F w W μ L) (g : (a, Obj.cells cs T fr) ∈ L) (ys : List Value) (c : ∀ w, (isAgg t).run P w = .ok true w) (i : ∀ w, (sizeOf t).run P w = .ok ys.length w) (h : LW P n ops Q rest (qm E d (.agg ys.toArray)) W) (k : lV E x = .pointer (some ⟨a, off, none⟩) := by exact rfl) (l : (cs.toList.drop off).take ys.length = ys := by exact rfl) (j : d < n := by decide) : LW P n ops Q (⟨some d, .load t x, ty, pos, af, none⟩ :: rest) E W := V (lK k (lP b.has g ys l c i)) h j
theorem VB {t : TypeId} (b : ST dd F w W μ L) (g : (a, Obj.cells cs T fr) ∈ L) (j : lV E x = .pointer (some ⟨a, off, none⟩)) (k : cs[off]? = some v) (c : ∀ w, (isAgg t).run P w = .ok false w) (h : LW P n ops Q rest (qm E d v) W) (i : d < n := by decide) : LW P n ops Q (⟨some d, .load t x, ty, pos, af, none⟩ :: rest) E W := V (lK j (ma b.has g k c)) h i
end
section
variable {K : (Nat → Value) → World → Prop} {Q' : tb} {c : Code} {id id2 : Nat} {l : List Oper} {z : Code}
theorem sg (h : LW P n l.toArray (ta (fun E W => CW P n c Q E W) Q) l E W) : CW P n (.seq (.region id l.toArray false) c) Q E W := me (mc h)
theorem ln (h : K E W) : LW P n ops (ta K Q) [] E W := mD (lU h)
theorem lr (h : LW P n l.toArray (ta (fun E W => CW P n c Q E W) Q) l E W) : LW P n ops (ta (fun E W => CW P n (.seq (.region id l.toArray false) c) Q E W) Q') [] E W := mD (lU (me (mc h)))
theorem lS (h : LW P n l.toArray (ta (fun E W => CW P n c (ta (fun E W => CW P n z Q E W) Q) E W) (ta (fun E W => CW P n z Q E W) Q)) l E W) : LW P n ops (ta (fun E W => CW P n (.seq (.seq (.region id l.toArray false) c) z) Q E W) Q') [] E W := mD (lU (me (me (mc h))))
theorem bg (h : LW P n l.toArray (ta (fun E W => CW P n c (yA id2 Q) E W) (yA id2 Q)) l E W) : CW P n (.block id2 (.seq (.region id l.toArray false) c)) Q E W := nS (me (mc h))
theorem kg (h : LW P n l.toArray (ta (fun E W => CW P n c Q E W) Q) l E W) : CW P n .skip (ta (fun E W => CW P n (.seq (.region id l.toArray false) c) Q E W) Q') E W := np (lU (me (mc h)))
theorem kS (h : LW P n l.toArray (ta (fun E W => CW P n c (ta (fun E W => CW P n z Q E W) Q) E W) (ta (fun E W => CW P n z Q E W) Q)) l E W) : CW P n .skip (ta (fun E W => CW P n (.seq (.seq (.region id l.toArray false) c) z) Q E W) Q') E W := np (lU (me (me (mc h))))
theorem lt (h : Q .ret E W) : LW P n ops (ta (fun E W => CW P n .ret Q E W) Q') [] E W := mD (lU (mB h))
theorem kn (h : K E W) : CW P n .skip (ta K Q) E W := np (lU h)
end
end
theorem ST.UD {α : Type} {dd : Bool} {F : Nat → Prop} {w W : World} {μ : mF} {R Y : List (Nat × Obj)} {e' : TypeId} {enc : α → List Value} {k : Nat} {v : Value} {l : List α} (d : ST dd F w W μ (R ++ Y)) (h : sd e' enc k v l R) (hk : ∀ x, (enc x).length = k) : ∃ μ', ST dd F w W μ' Y ∧ mn μ μ' ∧ Lo F w μ μ' ∧ Sl (Pl enc) k μ' v l := by
 obtain ⟨μ', g, a2, a3, a4⟩ := ST.xP d
 refine ⟨μ', g, a2, a3, (h.Er hk).mono (Pl.mono _) (fun b o a => ?_)⟩
 unfold Bn at a
 cases c : List.find? (fun p => p.1 == b) R with
 | none => rw [c] at a; cases a
 | some q =>
  rw [c] at a
  have h1 := fY c
  have i := jG c
  obtain rfl : q.2 = o := by simpa using a
  obtain rfl : q.1 = b := by simpa using i
  exact a4 _ _ h1
end Go.Proofs.YtklbhegeiijbjaaGreat
namespace Go.Proofs.YtklbhegeiijbjaaGreat
open Go.Sort Go.Proofs Go.Shelf
theorem Ia {g b : Nat} {o : Obj} : keys [(g, o)] b ↔ b = g := by
 constructor
 ·rintro ⟨a, h⟩
  simp at h
  exact h.1
 ·rintro rfl; exact ⟨o, by simp⟩
theorem DQ (w : World) (g m : Nat) (f : Array Value → Array Value) (os : Array Obj) (b : Nat) (c : b < w.heap.size) :
  (Go.Sort.grow (mapBlock (Go.Sort.ahead w m) g f) os).heap[b]? = if g = b then w.heap[b]?.map (onCells f) else w.heap[b]? := by
 have a : b < (mapBlock (Go.Sort.ahead w m) g f).heap.size := by simp only [mapBlock, Go.Sort.ahead, Array.size_modify]; exact c
 rw [heap_grow_old _ _ a]
 simp only [mapBlock, Go.Sort.ahead, eH]
theorem MB {w : World} {g m : Nat} {f : Array Value → Array Value} {os : Array Obj} {cs : Array Value} {T : TypeId} {fr : Nat × Nat} (c : w.heap[g]? = some (.cells cs T fr)) :
  wu true [(g, .cells cs T fr)] [(g, .cells (f cs) T fr)] w (Go.Sort.grow (mapBlock (Go.Sort.ahead w m) g f) os) := by
 have a : g < w.heap.size := (dO.1 c).1
 refine ⟨⟨rfl, rfl, rfl, ?_, ?_, fun b d i => ?_⟩, fun b o h => ?_, by simp⟩
 ·refine vQ.of ?_
  show w.drawn ≤ w.drawn + m
  omega
 ·show w.heap.size ≤ (w.heap.modify g (onCells f) ++ os).size
  simp
 ·rw [DQ _ _ _ _ _ _ d, aY fun h => i (Ia.2 h.symm)]
 ·simp only [aS, dV, iM, Prod.mk.injEq] at h
  obtain ⟨rfl, rfl⟩ := h
  refine ⟨?_, .inr (Ia.2 rfl)⟩
  rw [DQ _ _ _ _ _ _ a, aV rfl, c]
  rfl
theorem N2 {w W : World} (h : Ex true w W) : ∃ q os, W = Go.Sort.grow (w.drewN q) os := by
 refine ⟨W.drawn - w.drawn, W.heap.extract w.heap.size W.heap.size, ?_⟩
 have d : W.heap = w.heap ++ W.heap.extract w.heap.size W.heap.size := by
  apply Array.ext_getElem?
  intro i
  rw [Array.getElem?_append]
  split
  ·rename_i g; exact h.oy i g
  ·rename_i g
   rw [Array.getElem?_extract]
   have k := h.size
   split
   ·rw [show w.heap.size + (i - w.heap.size) = i by omega]
   ·exact Array.getElem?_eq_none (by omega)
 obtain ⟨h1, l, m, n, o⟩ := W
 have a := h.os; have b := h.tape; have c := h.output; have j := h.drawn rfl
 simp only at a b c j d
 unfold Go.Sort.grow World.drewN
 simp only [World.mk.injEq]
 exact ⟨d, b, by omega, a, c⟩
theorem Ng {α : Type} [Inhabited α] {enc : α → List Value} {k : Nat} (hk : ∀ x, (enc x).length = k) (l : List α) (j : Nat) (a : j < l.length * k) :
  (l.map enc).flatten[j]? = some ((flatK enc k l.toArray)[j]!) := by
 have d : 0 < k := by
  cases k with
  | zero => simp at a
  | succ n => omega
 have h1 : j / k < l.length := (jo d).2 a
 rw [get_flatK _ _ _ _ (by simpa using a)]
 have g : l.toArray[j / k]! = l[j / k] := by
  rw [getElem!_pos l.toArray (j / k) (by simpa using h1)]; simp
 rw [g]
 have b : j % k < (enc l[j / k]).length := by rw [hk]; exact Nat.mod_lt _ d
 have c := yH hk l (j / k) l[j / k] (dA h1) (j % k) ((enc l[j / k])[j % k]) (dA b)
 rw [Nat.div_add_mod' j k] at c
 rw [c, getElem!_pos (enc l[j / k]) (j % k) b]
theorem KD {α : Type} [Inhabited α] {enc : α → List Value} {k : Nat} (hk : ∀ x, (enc x).length = k) {w : World} {g : Nat} {cs : Array Value} {T : TypeId} (b : w.heap[g]? = some (.cells cs T (0, 0))) (l : List α)
  (d : cs.toList.take (l.length * k) = (l.map enc).flatten) : HoldsK enc k w g 0 l.toArray := by
 intro j c
 have a : j < l.length * k := by simpa using c
 have h1 := Ng hk l j a
 rw [← d, gU, aV a] at h1
 refine ⟨?_, ?_⟩
 ·simp only [World.cell?, b, gV]
  simpa using h1
 ·simp [World.frozen?, b]
theorem ML {α : Type} [Inhabited α] {enc : α → List Value} {k : Nat} (hk : ∀ x, (enc x).length = k) {cs : Array Value} (l : List α) (b : l.length * k ≤ cs.size) :
  (putCells id 0 (flatK enc k l.toArray) cs).toList.take (l.length * k) = (l.map enc).flatten := by
 apply fI
 intro j
 rw [gU]
 split
 ·rename_i a
  rw [Ng hk l j a]
  simp only [putCells, dY, Array.getElem?_mapIdx, size_flatK, eA]
  rw [Array.getElem?_eq_getElem (by omega)]
  simp [a]
 ·rename_i a
  rw [iv (by rw [sk hk]; omega)]
theorem KQ (enc : Value → Value) (o : Nat) (d c : Array Value) : (putCells enc o d c).size = c.size := by simp [putCells]
section
variable {α : Type} {P : Program} {ρ : Ren}
theorem Ua {l : List α} {cf : α × α → Option Int} (h : Gr cf l) : SWO (ltOf fun (x y : {x // x ∈ l}) => (cf (x.1, y.1)).getD 0) ∧
  (∀ x y : {x // x ∈ l}, ltOf (fun (x y : {x // x ∈ l}) => (cf (x.1, y.1)).getD 0) x y = wy cf x.1 y.1) := by
 have e : ∀ x y : {x // x ∈ l}, ltOf (fun (x y : {x // x ∈ l}) => (cf (x.1, y.1)).getD 0) x y = wy cf x.1 y.1 := fun x y => by
  obtain ⟨c, g⟩ := h.is x.1 x.2 y.1 y.2
  simp [ltOf, wy, g]
 refine ⟨⟨fun x => ?_, fun x y z => ?_, fun x y z => ?_⟩, e⟩
 ·rw [e]; exact h.irrefl _ x.2
 ·rw [e, e, e]; exact h.trans _ x.2 _ y.2 _ z.2
 ·rw [e, e, e]
  intro h1 b
  cases a : wy cf x.1 z.1 with
  | false => rfl
  | true =>
   cases d : wy cf y.1 x.1 with
   | true =>
    have := h.trans _ y.2 _ x.2 _ z.2 d a
    rw [b] at this; cases this
   | false =>
    have := h.total _ x.2 _ y.2 h1 d
    rw [this, b] at a; cases a
theorem HL (L : SlLaysF0.n6 P ρ) (k : Nat) (aE : ∀ w, (isAgg (ρ.t 24)).run P w = .ok true w) (zE : ∀ w, (Go.sizeOf (ρ.t 24)).run P w = .ok k w) {e : TypeId} (enc : α → List Value) (hk : ∀ x, (enc x).length = k) (h1 : ∀ x, ∀ u ∈ enc x, u.oneCell' = true) {v fv : Value} {l r : List α} {R : List (Nat × Obj)} {cf : α × α → Option Int} {w : World} {μ0 : mF} (hH : GH (R ++ []) w) (A : mn μ0 (wm w (R ++ []))) (W : my e enc k v l R) (hc : TX P fv μ0 (fun (x : α × α) => [(.agg (enc x.1).toArray), (.agg (enc x.2).toArray)]) (fun (r : Int) => (.int .i64 r)) cf) (hm : zX cf l = some r) :
  nH true P (ρ.f 6) [v, fv] w (R ++ []) (fun u L1 _ => ∃ (S : List (Nat × Obj)), u = (.tuple #[]) ∧ L1 = (S ++ []) ∧ my e enc k v r S) := by
 obtain ⟨ok, rfl⟩ := Jh hm
 rw [bO] at hH A ⊢
 rcases fA l.length with h0 | i
 ·have hl : l = [] := aX h0
  subst hl
  have Y : vN cf ([] : List α) = [] := by simp [vN]
  rw [Y]
  obtain ⟨p, c, rfl⟩ : ∃ p c, v = .slice p 0 c := by
   rcases W with ⟨rfl, _, _⟩ | ⟨g, cap, j, rfl, _⟩
   ·exact ⟨_, _, rfl⟩
   ·exact ⟨_, _, rfl⟩
  refine dS (AnyF.slices_SortFunc_none L p c fv w) fun x w' ⟨hx, hw⟩ => ?_
  subst hx hw
  refine ⟨_, R, rfl, ⟨⟨rfl, rfl, rfl, vQ.of (aW _), aW _, fun _ _ _ => rfl⟩, fun b o h => ⟨hH b o h, .inr ⟨o, h⟩⟩, ?_⟩, R, rfl, (bO R).symm, W⟩
  rcases W with ⟨_, _, rfl⟩ | ⟨g, cap, j, _, rfl, _⟩ <;> simp
 ·rcases W with ⟨_, rfl, _⟩ | ⟨g, cap, j, rfl, rfl, a7, a6, J, ad⟩
  ·simp at i
  have hg : w.heap[g]? = some (.cells j e (0, 0)) := hH g _ (by simp)
  have a8 : g < w.heap.size := (dO.1 hg).1
  haveI : Inhabited {x // x ∈ l} := ⟨⟨l[0], List.getElem_mem i⟩⟩
  obtain ⟨gg, caps, rfl, M, q⟩ := hc
  obtain ⟨hO, O⟩ := Ua ok
  have D : l.attach.toArray.size = l.length := by simp
  have aa : l.attach.map (fun x => enc x.1) = l.map enc := by
   rw [show (fun x : {x // x ∈ l} => enc x.1) = enc ∘ Subtype.val from rfl, ← fD, List.attach_map_subtype_val]
  have Z : HoldsK (fun x : {x // x ∈ l} => enc x.1) k w g 0 l.attach.toArray := KD (fun x => hk x.1) hg l.attach (by rw [aa, List.length_attach, ad])
  have I : CmpLays P gg caps (fun x : {x // x ∈ l} => enc x.1) k (fun x y => (cf (x.1, y.1)).getD 0) g 0 l.attach.toArray.size w := by
   intro m os dk af x y
   obtain ⟨c, G⟩ := ok.is x.1 x.2 y.1 y.2
   have U : mn μ0 (hp (sortWorldK (fun x : {x // x ∈ l} => enc x.1) k w g 0 m dk os)) := fun b o hb => by
    have z := A b o hb
    unfold wm at z
    split at z
    ·cases z
    ·rename_i hn
     have a1 : b < w.heap.size := (dO.1 z).1
     show (Go.Sort.grow (mapBlock (Go.Sort.ahead w m) g _) os).heap[b]? = _
     rw [DQ _ _ _ _ _ _ a1, aY fun h => hn (Ia.2 h.symm)]
     exact z
   have h3 := q (sortWorldK (fun x : {x // x ∈ l} => enc x.1) k w g 0 m dk os) (x.1, y.1) c U G
   have ea : ([Value.agg (enc x.1).toArray, Value.agg (enc y.1).toArray] ++ caps.toList).toArray = #[Value.agg (enc x.1).toArray, Value.agg (enc y.1).toArray] ++ caps := by
    apply Array.ext'; simp
   rw [← ea]
   exact dS h3 fun u W' hu => ⟨by rw [hu.1]; show _ = Ending.returned (.int .i64 ((cf (x.1, y.1)).getD 0)); rw [G]; rfl, N2 hu.2⟩
  have hT : ∀ x y : {x // x ∈ l}, ltOf (fun (x y : {x // x ∈ l}) => (cf (x.1, y.1)).getD 0) x y = false → ltOf (fun (x y : {x // x ∈ l}) => (cf (x.1, y.1)).getD 0) y x = false → x = y := fun x y a b => by
   rw [O] at a b
   exact Subtype.ext (ok.total _ x.2 _ y.2 a b)
  have d := AnyQ.slices_SortFunc_total L k aE zE (fun x : {x // x ∈ l} => enc x.1) (fun x => hk x.1) (fun x => h1 x.1) (fun x y => (cf (x.1, y.1)).getD 0) hO gg caps g 0 cap l.attach.toArray w M I Z a8 (by rw [D]; exact ok.short) hT
  rw [D] at d
  refine dS d fun u w' ⟨hu, n, os, hw⟩ => ?_
  subst hu
  generalize Y : l.attach.toArray.toList.mergeSort (fun x y => !ltOf (fun (x y : {x // x ∈ l}) => (cf (x.1, y.1)).getD 0) y x) = s at hw
  have ab : s.map Subtype.val = vN cf l := by
   rw [← Y, jS (s := fun x y => !wy cf y x) (fun a _ b _ => by rw [O])]
   simp [vN]
  have T : s.length = l.length := by rw [← Y, List.length_mergeSort]; simp
  have Q : (vN cf l).length = l.length := by simp [vN, List.length_mergeSort]
  have F := MB (w := w) (m := n) (f := putCells id 0 (flatK (fun x : {x // x ∈ l} => enc x.1) k s.toArray)) (os := os) hg
  have ae : w' = Go.Sort.grow (mapBlock (Go.Sort.ahead w n) g (putCells id 0 (flatK (fun x : {x // x ∈ l} => enc x.1) k s.toArray))) os := hw
  rw [← ae] at F
  refine ⟨_, _, rfl, F, _, rfl, (bO _).symm, .inr ⟨g, cap, _, by rw [Q], rfl, by omega, a6, by rw [KQ, J], ?_⟩⟩
  rw [Q, ← T, ML (fun x => hk x.1) s (by rw [T, J]; exact cU k a7), ← ab, fD]
  rfl
end
end Go.Proofs.YtklbhegeiijbjaaGreat
namespace Go.Proofs.YtklbhegeiijbjaaGreat
open Go.Sort Go.Proofs Go.Shelf
theorem GA (b : ByteArray) : b.toList = b.data.toList := by rw [gO]
theorem Ta (l : List ByteArray) : (l.map Fa).flatten = l.map Value.string := by
 induction l with
 | nil => rfl
 | cons x l ih => simp only [bM, bQ, ih]; rfl
theorem Qp (l : List ByteArray) : (xk l).map (fun b => b.data.toList) = (l.map (fun b => b.data.toList)).mergeSort (fun x y => decide (x ≤ y)) := by
 unfold xk
 refine jS fun a _ b _ => ?_
 unfold tf
 rw [bytesLess_eq, GA, GA]
 by_cases h : a.data.toList ≤ b.data.toList
 ·have c : ¬ b.data.toList < a.data.toList := List.not_lt.2 h
  simp [h, c]
 ·have c : b.data.toList < a.data.toList := by
   cases Decidable.em (b.data.toList < a.data.toList) with
   | inl d => exact d
   | inr d => exact absurd (List.not_lt.1 d) h
  simp [h, c]
end Go.Proofs.YtklbhegeiijbjaaGreat
namespace Go.Proofs.YtklbhegeiijbjaaGreat
open Go.WideElems Go.WideShapes Go.Sort Go.Proofs Go.Shelf
theorem MG {β : Type} {vf : β → Value} {P : Program} {kt : TypeId} (y : P.underlying kt = some .string) {l : List (ByteArray × β)} {es : Array MapEntry} {clock : Nat} (h : wW Value.string vf l es clock) (u : (l.map (·.1)).Nodup) (w : ∀ p ∈ l, p.1.size ≤ maxLen) (t : l.length ≤ maxLen) {W : World} {b : Nat} (r : W.heap[b]? = some (.map es clock)) : ∃ D : DataW Unit, W.ownsMap P kt (fun _ => some (.lit (.bool true), [])) b es.size D ∧ (strKeys D).Perm (l.map (fun p => p.1.data.toList)) ∧ Maps.size D = l.length := by
 have c := h.keys
 have m : ∀ x ∈ es.toList, ∃ s : ByteArray, x.key = .string s ∧ s.size ≤ maxLen := fun x i => by
  have h1 : x.key ∈ es.toList.map (·.key) := bG.2 ⟨x, i, rfl⟩
  rw [c] at h1
  obtain ⟨s, g, j⟩ := bG.1 h1
  obtain ⟨p, o, q⟩ := bG.1 g
  exact ⟨s, j.symm, by rw [← q]; exact w p o⟩
 have d : ∀ x ∈ es.toList, ∃ s : ByteArray, x.key = .string s ∧ Go.WideElems.rd (H := Unit) P kt (fun _ => some (.lit (.bool true), [])) x = some (.string s.data.toList, .lit (.bool true)) := fun x i => by
  obtain ⟨s, h1, g⟩ := m x i
  refine ⟨s, h1, ?_⟩
  simp [Go.WideElems.rd, keyOf, y, mapKey, h1, g]
 refine ⟨_, ⟨es, clock, r, ⟨by rw [h.length]; exact t, ⟨h.lt, ?_, ?_⟩, fun x i => ?_⟩, aW _, rfl⟩, ?_, ?_⟩
 ·have := h.born
  rw [List.Nodup, gF]
  exact this.imp (fun {a b} h => by omega)
 ·rw [c]
  rw [List.Nodup, gF]
  exact u.imp (fun {a b} k e => k (by injection e))
 ·obtain ⟨s, _, g⟩ := d x i
  exact ⟨_, g⟩
 ·have h1 := (sorted_perm (es.toList.map (Go.WideElems.rg (H := Unit) P kt (fun _ => some (.lit (.bool true), []))))).map (fun p => strOf p.1)
  refine List.Perm.trans h1 ?_
  have e : (es.toList.map (Go.WideElems.rg (H := Unit) P kt (fun _ => some (.lit (.bool true), [])))).map (fun p => strOf p.1) = l.map (fun p => p.1.data.toList) := by
   have n : (es.toList.map (Go.WideElems.rg (H := Unit) P kt (fun _ => some (.lit (.bool true), [])))).map (fun p => strOf p.1) = (es.toList.map (·.key)).map (fun v => match v with | .string s => s.data.toList | _ => []) := by
    rw [fD, fD]
    refine jJ fun x i => ?_
    obtain ⟨s, g, j⟩ := d x i
    simp [Go.WideElems.rg, j, g, strOf]
   rw [n, c, fD, fD]
   rfl
  rw [e]
 ·have h1 := (sorted_perm (es.toList.map (Go.WideElems.rg (H := Unit) P kt (fun _ => some (.lit (.bool true), []))))).length_eq
  show (List.foldr DataW.insert [] _).length = _
  rw [h1, cV, ← h.length]
  simp
theorem KK {l : List ByteArray} {g : List (List UInt8)} (h : g.Perm (l.map fun b => b.data.toList)) : g.mergeSort (fun x y => decide (x ≤ y)) = (xk l).map (fun b => b.data.toList) := by
 rw [Qp]
 have le : ∀ a b c : List UInt8, decide (a ≤ b) = true → decide (b ≤ c) = true → decide (a ≤ c) = true := fun a b c h1 d => by
  simp only [cH] at *
  exact List.le_trans h1 d
 have tot : ∀ a b : List UInt8, (decide (a ≤ b) || decide (b ≤ a)) = true := fun a b => by
  simp only [ie, cH]
  exact List.le_total a b
 refine List.Perm.eq_of_pairwise (le := fun a b => decide (a ≤ b) = true) (fun a b _ _ h1 d => List.le_antisymm (by simpa using h1) (by simpa using d)) (ja le tot _) (ja le tot _) ?_
 exact (jK _ _).trans (h.trans (jK _ _).symm)
section
variable {P : Program} {ρk ρt ρm : Ren}
theorem My (LK : SlLaysZ.n7 P ρk) (LT : SlLaysZ.n6 P ρt) (LM : SlLaysM.n6 P ρm) (h9 : ρt.f 9 = ρm.f 6) (hK : P.underlying (ρk.t 26) = some .string) (eg : ∀ args w, (callFunc (ρk.f 10) args).run P w = .ok (.enter (ρk.f 10) args) w) (es : ∀ args w, (callFunc (ρt.f 9) args).run P w = .ok (.enter (ρt.f 9) args) w) {β : Type} {vf : β → Value} {l : List (ByteArray × β)} {b : Nat} {mv : Value} {t : TypeId} {W : World} {r : List ByteArray} (u : W.heap[b]? = some (.cells #[mv] t (0, 0))) (hm : sy Value.string vf (hp W) mv l) (hk : IC l = some r) :
  nC false P (ρt.f 6) [.func (.func (ρk.f 10)) #[] #[.pointer (some ⟨b, 0, none⟩)]] W (ρt.t 26) Fa 1 r := by
 unfold IC at hk
 split at hk
 case isFalse => cases hk
 rename_i hc
 obtain ⟨T, U, Y⟩ := hc
 cases hk
 have i : b < W.heap.size := (dO.1 u).1
 have c : W.cell? ⟨b, 0, none⟩ = some mv := by simp [World.cell?, u]
 have q : AnyZ.SortsIn P ρt Fence.wide 4 :=
  ⟨fun M off cap d W hH hblk s => callsIn_wide.2 (by rw [h9]; exact AnyM.slices_Sort_string LM M off cap d W hH hblk s), fun p cap W => callsIn_wide.2 (by rw [h9]; exact AnyM.slices_Sort_string_none LM p cap W)⟩
 have I : SeqGives Fence.wide 2 P (ρk.f 10) #[.pointer (some ⟨b, 0, none⟩)] encStr (fun d => d.Perm ((l.map (·.1)).map fun b => b.data.toList)) l.length W := by
  rcases hm with ⟨rfl, rfl⟩ | ⟨m, es, clock, rfl, a6, A⟩
  ·have := AnyZ.keys_gives_nil (ρ := ρk) { LK with } Fence.wide 2 trivial rfl b W i c
   intro l' J W' Q O R L
   refine CallsIn.mono (this l' J W' Q O R L) ?_
   rintro e w' ⟨hv, d, rfl, hj⟩
   exact ⟨hv, [], bE _, hj⟩
  ·obtain ⟨D, F, n, s⟩ := MG hK A T U (by unfold maxLen; omega) a6
   have := AnyZ.keys_gives (ρ := ρk) { LK with } Fence.wide 2 trivial rfl (by omega) b m es.size D W i c F
   intro l' J W' Q O R L
   refine CallsIn.mono (this l' J W' Q O (by rw [s]; exact R) L) ?_
   rintro e w' ⟨hv, d, hp, hj⟩
   refine ⟨hv, d, ?_, hj⟩
   rw [fD]
   exact hp.trans n
 have cS := AnyZ.sorted_in LT Fence.wide 5 trivial trivial trivial trivial rfl (by omega) q es (ρk.f 10) #[.pointer (some ⟨b, 0, none⟩)] trivial eg _ l.length (by unfold maxLen; omega) Y W I
 refine dS (callsIn_wide.1 cS) ?_
 rintro e w' ⟨v, d, rfl, hS, G, a8, a⟩
 have hs := KK hS
 have hlen : d.length = (xk (l.map (·.1))).length := by
  have := bA List.length hs
  simpa using this
 have k : (d.mergeSort (fun x y => decide (x ≤ y))).map encStr = ((xk (l.map (·.1))).map Fa).flatten := by
  rw [hs, Ta, fD]
  refine jJ (fun x _ => ?_)
  simp only [Function.comp, encStr]
 rcases G.2 with ⟨rfl, L⟩ | ⟨g, cap, z, rfl, j, hg, aa, Z, a1, a7⟩
 ·have : xk (l.map (·.1)) = [] := aX (by omega)
  rw [this]
  exact ⟨_, [], rfl, wu.KT ⟨a.os, a.tape, a.output, fun h => (by cases h), a.size, fun b u => a.block b u⟩ (fun _ _ h => by cases h) (by simp), my.nil _ _ _⟩
 ·refine ⟨_, [(g, .cells z (ρt.t 26) (0, 0))], rfl, wu.KT ⟨a.os, a.tape, a.output, fun h => (by cases h), a.size, fun b u => a.block b u⟩ (fun b o h => by simp at h; obtain ⟨rfl, rfl⟩ := h; exact ⟨hg, j⟩) (by simp), .inr ⟨g, cap, z, by rw [hlen], rfl, by omega, Z, a1, ?_⟩⟩
  rw [← hlen, a7, k]
end
end Go.Proofs.YtklbhegeiijbjaaGreat
namespace Go.Proofs.YtklbhegeiijbjaaGreat
def gT := @Tryz.underlying9
def ig := @Tryz.zeroValue9
def iE := @Tryz.underlying0
def iV := @Tryz.zeroValue0
def jh := @Tryz.sizeOf9
def jt := @Tryz.underlying4
def jA := @Tryz.isAgg9
def jH := @Tryz.zeroValue4
def jN := @Tryz.sizeOf0
def jT := @Tryz.underlying232
def jU := @Tryz.underlying276
def jV := @Tryz.underlying277
def jW := @Tryz.underlying281
def jX := @Tryz.underlying284
def jY := @Tryz.underlying235
def jZ := @Tryz.underlying310
def kc := @Tryz.underlying314
def kd := @Tryz.underlying343
def ke := @Tryz.underlying200
def kf := @Tryz.underlying261
def kp := @Tryz.isAgg0
def ku := @Tryz.zeroValue232
def kv := @Tryz.zeroValue276
def kw := @Tryz.zeroValue277
def kx := @Tryz.zeroValue281
def ky := @Tryz.zeroValue284
def kz := @Tryz.zeroValue235
def kA := @Tryz.zeroValue310
def kB := @Tryz.zeroValue314
def kC := @Tryz.zeroValue343
def kD := @Tryz.zeroValue200
def kF := @Tryz.zeroValue261
def kU := @Tryz.underlying3
def kV := @Tryz.underlying5
def lb := @Tryz.sizeOf4
def lh := @Tryz.zeroValue3
def li := @Tryz.zeroValue5
def lm := @Tryz.isAgg4
def Pa : Go.Shelf.Ren := ⟨fun | 6 => 114 | 15 => 177 | 14 => 176 | 28 => 238 | 29 => 239 | 20 => 230 | 21 => 231 | 22 => 232 | 23 => 233 | 24 => 234 | 25 => 235 | 26 => 236 | 27 => 237 | 46 => 277 | 47 => 278 | 48 => 279 | 49 => 280 | 50 => 281 | 57 => 317 | n => n, fun | 22 => 28 | 24 => 52 | 25 => 177 | 3 => 3 | 39 => 232 | 0 => 0 | 53 => 284 | 55 => 235 | 4 => 4 | 46 => 277 | 45 => 276 | 50 => 281 | 5 => 5 | 9 => 9 | 66 => 310 | 70 => 314 | 76 => 343 | 77 => 200 | n => n, fun | n => n⟩
theorem Tc : Go.Proofs.SlLaysF0.n6 Tryz.prog Pa := {
 mixed := by kernel_rfl,
 f6 := ⟨Tryz.f114.name, by decide, Tryz.func114.trans (bA some (by kernel_rfl))⟩,
 f14 := ⟨Tryz.f176.name, by decide, Tryz.func176.trans (bA some (by kernel_rfl))⟩,
 f15 := Tryz.func177.trans (bA some (by kernel_rfl)),
 f20 := ⟨Tryz.f230.name, by decide, Tryz.func230.trans (bA some (by kernel_rfl))⟩,
 f21 := ⟨Tryz.f231.name, by decide, Tryz.func231.trans (bA some (by kernel_rfl))⟩,
 f22 := ⟨Tryz.f232.name, by decide, Tryz.func232.trans (bA some (by kernel_rfl))⟩,
 f23 := ⟨Tryz.f233.name, by decide, Tryz.func233.trans (bA some (by kernel_rfl))⟩,
 f24 := ⟨Tryz.f234.name, by decide, Tryz.func234.trans (bA some (by kernel_rfl))⟩,
 f25 := ⟨Tryz.f235.name, by decide, Tryz.func235.trans (bA some (by kernel_rfl))⟩,
 f26 := ⟨Tryz.f236.name, by decide, Tryz.func236.trans (bA some (by kernel_rfl))⟩,
 f27 := ⟨Tryz.f237.name, by decide, Tryz.func237.trans (bA some (by kernel_rfl))⟩,
 f28 := Tryz.func238.trans (bA some (by kernel_rfl)),
 f29 := Tryz.func239.trans (bA some (by kernel_rfl)),
 f46 := ⟨Tryz.f277.name, by decide, Tryz.func277.trans (bA some (by kernel_rfl))⟩,
 f47 := Tryz.func278.trans (bA some (by kernel_rfl)),
 f48 := Tryz.func279.trans (bA some (by kernel_rfl)),
 f49 := ⟨Tryz.f280.name, by decide, Tryz.func280.trans (bA some (by kernel_rfl))⟩,
 f50 := ⟨Tryz.f281.name, by decide, Tryz.func281.trans (bA some (by kernel_rfl))⟩,
 f57 := ⟨Tryz.f317.name, by decide, Tryz.func317.trans (bA some (by kernel_rfl))⟩,
 t0 := iE,
 a0 := kp,
 z0 := jN,
 v0 := iV,
 t3 := kU,
 a3 := Tryz.isAgg3,
 z3 := Tryz.sizeOf3,
 v3 := lh,
 t4 := jt,
 a4 := lm,
 z4 := lb,
 v4 := jH,
 t5 := kV,
 a5 := Tryz.isAgg5,
 z5 := Tryz.sizeOf5,
 v5 := li,
 t9 := gT,
 a9 := jA,
 z9 := jh,
 v9 := ig,
 t22 := Tryz.underlying28,
 a22 := Tryz.isAgg28,
 z22 := Tryz.sizeOf28,
 v22 := Tryz.zeroValue28,
 t25 := Tryz.underlying177,
 a25 := Tryz.isAgg177,
 z25 := Tryz.sizeOf177,
 v25 := Tryz.zeroValue177,
 t39 := jT,
 a39 := Tryz.isAgg232,
 z39 := Tryz.sizeOf232,
 v39 := ku,
 t45 := jU,
 a45 := Tryz.isAgg276,
 z45 := Tryz.sizeOf276,
 v45 := kv,
 t46 := jV,
 a46 := Tryz.isAgg277,
 z46 := Tryz.sizeOf277,
 v46 := kw,
 t50 := jW,
 a50 := Tryz.isAgg281,
 z50 := Tryz.sizeOf281,
 v50 := kx,
 t53 := jX,
 a53 := Tryz.isAgg284,
 z53 := Tryz.sizeOf284,
 v53 := ky,
 t55 := jY,
 a55 := Tryz.isAgg235,
 z55 := Tryz.sizeOf235,
 v55 := kz,
 t66 := jZ,
 a66 := Tryz.isAgg310,
 z66 := Tryz.sizeOf310,
 v66 := kA,
 t70 := kc,
 a70 := Tryz.isAgg314,
 z70 := Tryz.sizeOf314,
 v70 := kB,
 t76 := kd,
 a76 := Tryz.isAgg343,
 z76 := Tryz.sizeOf343,
 v76 := kC,
 t77 := ke,
 a77 := Tryz.isAgg200,
 z77 := Tryz.sizeOf200,
 v77 := kD}
def Qh : Go.Shelf.Ren := ⟨fun | 6 => 154 | 15 => 177 | 14 => 208 | 28 => 238 | 29 => 239 | 20 => 252 | 21 => 253 | 22 => 254 | 23 => 255 | 24 => 256 | 25 => 257 | 26 => 258 | 27 => 259 | 46 => 293 | 47 => 278 | 48 => 279 | 49 => 294 | 50 => 295 | 57 => 324 | n => n, fun | 22 => 34 | 24 => 50 | 25 => 214 | 3 => 3 | 39 => 232 | 0 => 0 | 53 => 284 | 55 => 235 | 4 => 4 | 46 => 277 | 45 => 276 | 50 => 281 | 5 => 5 | 9 => 9 | 66 => 310 | 70 => 314 | 76 => 343 | 77 => 200 | n => n, fun | n => n⟩
theorem TT : Go.Proofs.SlLaysF0.n6 Tryz.prog Qh := {
 mixed := by kernel_rfl,
 f6 := ⟨Tryz.f154.name, by decide, Tryz.func154.trans (bA some (by kernel_rfl))⟩,
 f14 := ⟨Tryz.f208.name, by decide, Tryz.func208.trans (bA some (by kernel_rfl))⟩,
 f15 := Tryz.func177.trans (bA some (by kernel_rfl)),
 f20 := ⟨Tryz.f252.name, by decide, Tryz.func252.trans (bA some (by kernel_rfl))⟩,
 f21 := ⟨Tryz.f253.name, by decide, Tryz.func253.trans (bA some (by kernel_rfl))⟩,
 f22 := ⟨Tryz.f254.name, by decide, Tryz.func254.trans (bA some (by kernel_rfl))⟩,
 f23 := ⟨Tryz.f255.name, by decide, Tryz.func255.trans (bA some (by kernel_rfl))⟩,
 f24 := ⟨Tryz.f256.name, by decide, Tryz.func256.trans (bA some (by kernel_rfl))⟩,
 f25 := ⟨Tryz.f257.name, by decide, Tryz.func257.trans (bA some (by kernel_rfl))⟩,
 f26 := ⟨Tryz.f258.name, by decide, Tryz.func258.trans (bA some (by kernel_rfl))⟩,
 f27 := ⟨Tryz.f259.name, by decide, Tryz.func259.trans (bA some (by kernel_rfl))⟩,
 f28 := Tryz.func238.trans (bA some (by kernel_rfl)),
 f29 := Tryz.func239.trans (bA some (by kernel_rfl)),
 f46 := ⟨Tryz.f293.name, by decide, Tryz.func293.trans (bA some (by kernel_rfl))⟩,
 f47 := Tryz.func278.trans (bA some (by kernel_rfl)),
 f48 := Tryz.func279.trans (bA some (by kernel_rfl)),
 f49 := ⟨Tryz.f294.name, by decide, Tryz.func294.trans (bA some (by kernel_rfl))⟩,
 f50 := ⟨Tryz.f295.name, by decide, Tryz.func295.trans (bA some (by kernel_rfl))⟩,
 f57 := ⟨Tryz.f324.name, by decide, Tryz.func324.trans (bA some (by kernel_rfl))⟩,
 t0 := iE,
 a0 := kp,
 z0 := jN,
 v0 := iV,
 t3 := kU,
 a3 := Tryz.isAgg3,
 z3 := Tryz.sizeOf3,
 v3 := lh,
 t4 := jt,
 a4 := lm,
 z4 := lb,
 v4 := jH,
 t5 := kV,
 a5 := Tryz.isAgg5,
 z5 := Tryz.sizeOf5,
 v5 := li,
 t9 := gT,
 a9 := jA,
 z9 := jh,
 v9 := ig,
 t22 := Tryz.underlying34,
 a22 := Tryz.isAgg34,
 z22 := Tryz.sizeOf34,
 v22 := Tryz.zeroValue34,
 t25 := Tryz.underlying214,
 a25 := Tryz.isAgg214,
 z25 := Tryz.sizeOf214,
 v25 := Tryz.zeroValue214,
 t39 := jT,
 a39 := Tryz.isAgg232,
 z39 := Tryz.sizeOf232,
 v39 := ku,
 t45 := jU,
 a45 := Tryz.isAgg276,
 z45 := Tryz.sizeOf276,
 v45 := kv,
 t46 := jV,
 a46 := Tryz.isAgg277,
 z46 := Tryz.sizeOf277,
 v46 := kw,
 t50 := jW,
 a50 := Tryz.isAgg281,
 z50 := Tryz.sizeOf281,
 v50 := kx,
 t53 := jX,
 a53 := Tryz.isAgg284,
 z53 := Tryz.sizeOf284,
 v53 := ky,
 t55 := jY,
 a55 := Tryz.isAgg235,
 z55 := Tryz.sizeOf235,
 v55 := kz,
 t66 := jZ,
 a66 := Tryz.isAgg310,
 z66 := Tryz.sizeOf310,
 v66 := kA,
 t70 := kc,
 a70 := Tryz.isAgg314,
 z70 := Tryz.sizeOf314,
 v70 := kB,
 t76 := kd,
 a76 := Tryz.isAgg343,
 z76 := Tryz.sizeOf343,
 v76 := kC,
 t77 := ke,
 a77 := Tryz.isAgg200,
 z77 := Tryz.sizeOf200,
 v77 := kD}
def Tm : Go.Shelf.Ren := ⟨fun | 6 => 310 | 8 => 177 | 9 => 332 | 19 => 238 | 20 => 239 | 21 => 345 | 22 => 346 | 23 => 347 | 24 => 348 | 25 => 349 | 26 => 350 | 27 => 351 | 28 => 352 | 29 => 353 | 36 => 360 | 31 => 278 | 32 => 279 | 37 => 361 | 38 => 362 | 39 => 363 | 41 => 366 | n => n, fun | 27 => 261 | 29 => 9 | 3 => 3 | 32 => 232 | 26 => 261 | 0 => 0 | 44 => 284 | 46 => 235 | 4 => 4 | 36 => 277 | 35 => 276 | 41 => 281 | 5 => 5 | 9 => 9 | 53 => 310 | 57 => 314 | 63 => 343 | 64 => 200 | n => n, fun | n => n⟩
theorem TI : Go.Proofs.SlLaysM.n6 Tryz.prog Tm := {
 mixed := by kernel_rfl,
 f6 := ⟨Tryz.f310.name, by decide, Tryz.func310.trans (bA some (by kernel_rfl))⟩,
 f8 := Tryz.func177.trans (bA some (by kernel_rfl)),
 f9 := ⟨Tryz.f332.name, by decide, Tryz.func332.trans (bA some (by kernel_rfl))⟩,
 f19 := Tryz.func238.trans (bA some (by kernel_rfl)),
 f20 := Tryz.func239.trans (bA some (by kernel_rfl)),
 f21 := ⟨Tryz.f345.name, by decide, Tryz.func345.trans (bA some (by kernel_rfl))⟩,
 f22 := ⟨Tryz.f346.name, by decide, Tryz.func346.trans (bA some (by kernel_rfl))⟩,
 f23 := ⟨Tryz.f347.name, by decide, Tryz.func347.trans (bA some (by kernel_rfl))⟩,
 f24 := ⟨Tryz.f348.name, by decide, Tryz.func348.trans (bA some (by kernel_rfl))⟩,
 f25 := ⟨Tryz.f349.name, by decide, Tryz.func349.trans (bA some (by kernel_rfl))⟩,
 f26 := ⟨Tryz.f350.name, by decide, Tryz.func350.trans (bA some (by kernel_rfl))⟩,
 f27 := ⟨Tryz.f351.name, by decide, Tryz.func351.trans (bA some (by kernel_rfl))⟩,
 f28 := ⟨Tryz.f352.name, by decide, Tryz.func352.trans (bA some (by kernel_rfl))⟩,
 f29 := ⟨Tryz.f353.name, by decide, Tryz.func353.trans (bA some (by kernel_rfl))⟩,
 f31 := Tryz.func278.trans (bA some (by kernel_rfl)),
 f32 := Tryz.func279.trans (bA some (by kernel_rfl)),
 f36 := ⟨Tryz.f360.name, by decide, Tryz.func360.trans (bA some (by kernel_rfl))⟩,
 f37 := ⟨Tryz.f361.name, by decide, Tryz.func361.trans (bA some (by kernel_rfl))⟩,
 f38 := ⟨Tryz.f362.name, by decide, Tryz.func362.trans (bA some (by kernel_rfl))⟩,
 f39 := ⟨Tryz.f363.name, by decide, Tryz.func363.trans (bA some (by kernel_rfl))⟩,
 f41 := ⟨Tryz.f366.name, by decide, Tryz.func366.trans (bA some (by kernel_rfl))⟩,
 t0 := iE,
 a0 := kp,
 z0 := jN,
 v0 := iV,
 t3 := kU,
 a3 := Tryz.isAgg3,
 z3 := Tryz.sizeOf3,
 v3 := lh,
 t4 := jt,
 a4 := lm,
 z4 := lb,
 v4 := jH,
 t5 := kV,
 a5 := Tryz.isAgg5,
 z5 := Tryz.sizeOf5,
 v5 := li,
 t9 := gT,
 a9 := jA,
 z9 := jh,
 v9 := ig,
 t26 := kf,
 a26 := Tryz.isAgg261,
 z26 := Tryz.sizeOf261,
 v26 := kF,
 t27 := kf,
 a27 := Tryz.isAgg261,
 z27 := Tryz.sizeOf261,
 v27 := kF,
 t29 := gT,
 a29 := jA,
 z29 := jh,
 v29 := ig,
 t32 := jT,
 a32 := Tryz.isAgg232,
 z32 := Tryz.sizeOf232,
 v32 := ku,
 t35 := jU,
 a35 := Tryz.isAgg276,
 z35 := Tryz.sizeOf276,
 v35 := kv,
 t36 := jV,
 a36 := Tryz.isAgg277,
 z36 := Tryz.sizeOf277,
 v36 := kw,
 t41 := jW,
 a41 := Tryz.isAgg281,
 z41 := Tryz.sizeOf281,
 v41 := kx,
 t44 := jX,
 a44 := Tryz.isAgg284,
 z44 := Tryz.sizeOf284,
 v44 := ky,
 t46 := jY,
 a46 := Tryz.isAgg235,
 z46 := Tryz.sizeOf235,
 v46 := kz,
 t53 := jZ,
 a53 := Tryz.isAgg310,
 z53 := Tryz.sizeOf310,
 v53 := kA,
 t57 := kc,
 a57 := Tryz.isAgg314,
 z57 := Tryz.sizeOf314,
 v57 := kB,
 t63 := kd,
 a63 := Tryz.isAgg343,
 z63 := Tryz.sizeOf343,
 v63 := kC,
 t64 := ke,
 a64 := Tryz.isAgg200,
 z64 := Tryz.sizeOf200,
 v64 := kD}
def RS : Go.Shelf.Ren := ⟨fun | 7 => 283 | 10 => 319 | n => n, fun | 23 => 190 | 26 => 9 | 3 => 4 | 28 => 318 | 0 => 0 | 27 => 317 | 33 => 128 | 4 => 4 | n => n, fun | n => n⟩
theorem SL : Go.Proofs.SlLaysZ.n7 Tryz.prog RS := {
 mixed := by kernel_rfl,
 f7 := ⟨Tryz.f283.name, by decide, Tryz.func283.trans (bA some (by kernel_rfl))⟩,
 f10 := ⟨Tryz.f319.name, by decide, Tryz.func319.trans (bA some (by kernel_rfl))⟩,
 t0 := iE,
 a0 := kp,
 z0 := jN,
 v0 := iV,
 t4 := jt,
 a4 := lm,
 z4 := lb,
 v4 := jH,
 t23 := Tryz.underlying190,
 a23 := Tryz.isAgg190,
 z23 := Tryz.sizeOf190,
 v23 := Tryz.zeroValue190,
 t26 := gT,
 a26 := jA,
 z26 := jh,
 v26 := ig,
 t27 := Tryz.underlying317,
 a27 := Tryz.isAgg317,
 z27 := Tryz.sizeOf317,
 v27 := Tryz.zeroValue317,
 t28 := Tryz.underlying318,
 a28 := Tryz.isAgg318,
 z28 := Tryz.sizeOf318,
 v28 := Tryz.zeroValue318,
 t33 := Tryz.underlying128,
 a33 := Tryz.isAgg128,
 z33 := Tryz.sizeOf128,
 v33 := Tryz.zeroValue128}
def Sc : Go.Shelf.Ren := ⟨fun | 6 => 282 | 8 => 318 | 9 => 310 | 11 => 337 | 13 => 177 | 12 => 332 | 23 => 238 | 24 => 239 | 14 => 345 | 15 => 346 | 16 => 347 | 17 => 348 | 18 => 349 | 19 => 350 | 20 => 351 | 21 => 352 | 22 => 353 | 25 => 360 | 26 => 278 | 27 => 279 | 28 => 361 | 29 => 362 | 30 => 363 | 31 => 366 | n => n, fun | 26 => 9 | 28 => 318 | 24 => 261 | 0 => 0 | 3 => 3 | 37 => 232 | 48 => 284 | 50 => 235 | 4 => 4 | 40 => 277 | 39 => 276 | 45 => 281 | 5 => 5 | 9 => 9 | 51 => 310 | 55 => 314 | 57 => 343 | 58 => 200 | 33 => 128 | n => n, fun | n => n⟩
theorem SG : Go.Proofs.SlLaysZ.n6 Tryz.prog Sc := {
 mixed := by kernel_rfl,
 f6 := ⟨Tryz.f282.name, by decide, Tryz.func282.trans (bA some (by kernel_rfl))⟩,
 f8 := ⟨Tryz.f318.name, by decide, Tryz.func318.trans (bA some (by kernel_rfl))⟩,
 f11 := ⟨Tryz.f337.name, by decide, Tryz.func337.trans (bA some (by kernel_rfl))⟩,
 t0 := iE,
 a0 := kp,
 z0 := jN,
 v0 := iV,
 t24 := kf,
 a24 := Tryz.isAgg261,
 z24 := Tryz.sizeOf261,
 v24 := kF,
 t26 := gT,
 a26 := jA,
 z26 := jh,
 v26 := ig,
 t28 := Tryz.underlying318,
 a28 := Tryz.isAgg318,
 z28 := Tryz.sizeOf318,
 v28 := Tryz.zeroValue318,
 i26 := by kernel_rfl}
end Go.Proofs.YtklbhegeiijbjaaGreat
namespace Go.Proofs.YtklbhegeiijbjaaGreat
open Go.RowKit
set_option maxRecDepth 10000
noncomputable section
structure lC where
 lI : ByteArray
 lM : ByteArray
def lE (x : lC) : List Value := [.string x.lI, .string x.lM]
def lZ (x y : lC) : Bool := (nq x.lI y.lI) && ((nq x.lM y.lM) && true)
theorem mi {x y : lC} : lZ x y = true ↔ x = y := by
 cases x; cases y; simp [lZ, nY]
theorem nI (x : lC) : (lE x).length = 2 := rfl
theorem px (x : lC) : ∀ u ∈ lE x, u.oneCell' = true := by
 intro u hu
 simp only [lE, aS, dV, iM] at hu
 rcases hu with rfl | rfl <;> rfl
structure lB where
 Kind : Int
 Head : lC
 mS : ByteArray
 B : lC
 C : lC
 mK : ByteArray
def lD (x : lB) : List Value := [.int .i64 x.Kind, .string x.Head.lI, .string x.Head.lM, .string x.mS, .string x.B.lI, .string x.B.lM, .string x.C.lI, .string x.C.lM, .string x.mK]
def mC (x y : lB) : Bool := (x.Kind == y.Kind) && ((lZ x.Head y.Head) && ((nq x.mS y.mS) && ((lZ x.B y.B) && ((lZ x.C y.C) && ((nq x.mK y.mK) && true)))))
theorem nF {x y : lB} : mC x y = true ↔ x = y := by
 cases x; cases y; simp [mC, nY, mi]
theorem nj (x : lB) : (lD x).length = 9 := rfl
theorem pb (x : lB) : ∀ u ∈ lD x, u.oneCell' = true := by
 intro u hu
 simp only [lD, aS, dV, iM] at hu
 rcases hu with rfl | rfl | rfl | rfl | rfl | rfl | rfl | rfl | rfl <;> rfl
structure lY where
 lC : lC
 mS : ByteArray
def nU (x : lY) : List Value := [.string x.lC.lI, .string x.lC.lM, .string x.mS]
def Cy (x y : lY) : Bool := (lZ x.lC y.lC) && ((nq x.mS y.mS) && true)
theorem zu {x y : lY} : Cy x y = true ↔ x = y := by
 cases x; cases y; simp [Cy, nY, mi]
theorem yZ (x : lY) : (nU x).length = 3 := rfl
theorem M4 (x : lY) : ∀ u ∈ nU x, u.oneCell' = true := by
 intro u hu
 simp only [nU, aS, dV, iM] at hu
 rcases hu with rfl | rfl | rfl <;> rfl
structure RV where
 V1 : Int
 V2 : Int
structure mZ where
 e : Int
def nL (x : mZ) : List Value := [.int .i64 x.e]
structure Key where
 mS : ByteArray
 Key : List Int
structure Signed where
 lB : lB
 Tag : List Int
structure Formula where
 Op : Int
 K : Int
 lC : lC
 Kids : List Formula
structure mG where
 Signed : Signed
 lL : Formula
structure ny where
 lC : lC
 lL : Formula
 nn : List lB
structure lF where
 Name : ByteArray
 lX : List mG
 ml : List ny
structure Mc where
 lI : lF
 Client : lF
 Formula : Formula
 uM : Int
 RL : RV
 ND : Int
 Rz : Int
 Pc : Int
 Keys : List Key
structure mW where
 lF : lF
 na : ByteArray
 Room : Int
 lQ : List lB
 Shown : List lB
 mg : List lC
 mj : List lC
structure zA where
 Kind : Int
 uM : Int
 E : Int
 Name : ByteArray
 qo : List lC
 pR : List Signed
def qK (a0 : ByteArray) (a : Int) : Option Int :=
 some (zg a0 a)
def uf (a0 : ByteArray) (a : Int) : Option Int :=
 ((qK a0 a).bind fun b => some b)
def xj  : List Int → Option Bool
 | [] => some true
 | c :: a => ((uf (⟨#[97, 98, 99, 100, 101, 102, 103, 104, 105, 106, 107, 108, 109, 110, 111, 112, 113, 114, 115, 116, 117, 118, 119, 120, 121, 122, 48, 49, 50, 51, 52, 53, 54, 55, 56, 57, 45]⟩ : ByteArray) c).bind fun b => (if (decide (b < 0)) then some false else (xj a)))
def DN (a0 : ByteArray) : Option Bool :=
 ((EN a0).bind fun a => xj a)
def qP (a0 : ByteArray) : Option Bool :=
 (((if (decide ((a0.size : Int) ≥ 1)) then some (decide ((a0.size : Int) ≤ 16)) else some false) : Option Bool).bind fun x2 => (((if x2 then ((B9 a0 0).bind fun a => ((uf (⟨#[97, 98, 99, 100, 101, 102, 103, 104, 105, 106, 107, 108, 109, 110, 111, 112, 113, 114, 115, 116, 117, 118, 119, 120, 121, 122]⟩ : ByteArray) (a.toNat : Int)).bind fun c => some (decide (c ≥ 0)))) else some false) : Option Bool).bind fun d => (((if d then ((DN a0).bind fun b => some b) else some false) : Option Bool).bind fun g => some g)))
def wx (a0 : List Int) : Option (List Int) :=
 ((oI 1 ([]) a0).bind fun a => some a)
def qQ (a0 : lC) : Option Bool :=
 ((qP a0.lI).bind fun c => (((if c then ((qP a0.lM).bind fun a => some a) else some false) : Option Bool).bind fun b => some b))
def pt (a0 a : ByteArray) : Option Int :=
 some (rp a0 a)
def rO (a0 a : ByteArray) : Option Int :=
 ((pt a0 a).bind fun b => some b)
def uU  : List Int → Option Int
 | [] => some 0
 | a :: b => (if (a != 0) then some a else (uU b))
def xd (a0 : List Int) : Option Int :=
 uU a0
def pG (a0 d : lC) : Option Int :=
 ((rO a0.lI d.lI).bind fun a => ((rO a0.lM d.lM).bind fun b => ((xd ([a, b])).bind fun c => some c)))
def uR (a0 : lB) : Option Bool :=
 ((qQ a0.Head).bind fun x => (((if (a0.Kind == 1) then (((if x then ((qP a0.mS).bind fun b => some b) else some false) : Option Bool).bind fun n => some (Sum.inr (n, (⟨a0.Kind, a0.Head, a0.mS, (⟨zS, zS⟩ : lC), (⟨zS, zS⟩ : lC), zS⟩ : lB)))) else (if (a0.Kind == 2) then (((if x then ((qQ a0.B).bind fun c => some c) else some false) : Option Bool).bind fun o => some (Sum.inr (o, (⟨a0.Kind, a0.Head, zS, a0.B, (⟨zS, zS⟩ : lC), zS⟩ : lB)))) else (if (a0.Kind == 3) then (((if x then ((qQ a0.B).bind fun g => some g) else some false) : Option Bool).bind fun q => (((if q then some (nq a0.B.lI a0.Head.lI) else some false) : Option Bool).bind fun r => (((if r then ((qP a0.mK).bind fun d => some d) else some false) : Option Bool).bind fun t => some (Sum.inr (t, (⟨a0.Kind, a0.Head, zS, a0.B, (⟨zS, zS⟩ : lC), a0.mK⟩ : lB)))))) else (if (a0.Kind == 4) then (((if x then ((qQ a0.B).bind fun j => some j) else some false) : Option Bool).bind fun u => (((if u then ((qQ a0.C).bind fun i => some i) else some false) : Option Bool).bind fun v => (((if v then ((pG a0.B a0.C).bind fun h => some (decide (h < 0))) else some false) : Option Bool).bind fun w => some (Sum.inr (w, (⟨a0.Kind, a0.Head, zS, a0.B, a0.C, zS⟩ : lB)))))) else some (Sum.inl false))))) : Option (Bool ⊕ (Bool × lB))).bind fun s => match s with | .inl a => some a | .inr (k, l) => (((if k then some (mC l a0) else some false) : Option Bool).bind fun m => some m)))
def sf  : Nat → Int → (List Int) → Option (Bool × (List Int))
 | 0, _, _ => none
 | g + 1, a, c => (if (decide (a ≥ 128)) then ((oI 1 c ([(IntKind.u8.wrap (BitVec.ofInt (IntKind.bits .u8) (IntKind.u8.wrap a) ||| BitVec.ofInt (IntKind.bits .u8) 128).toNat)])).bind fun d => (sf g (Int.fdiv a (2 ^ min (Int.toNat 7) (IntKind.bits .i64))) d)) else ((oI 1 c ([(IntKind.u8.wrap a)])).bind fun b => some (true, b)))
def pV (a : List Int) (b : Int) : Option (Bool × (List Int)) :=
 (if (decide (b < 0)) then some (false, a) else sf mR b a)
def zt (a b : List Int) : Option (Bool × (List Int)) :=
 (if (decide ((b.length : Int) > 2048)) then some (false, a) else ((pV a (b.length : Int)).bind fun d => ((oI 1 d.2 b).bind fun c => some (true, c))))
def vZ (a : List Int) (h : ByteArray) : Option (Bool × (List Int)) :=
 ((qP h).bind fun i => (((if i then ((EN h).bind fun d => ((zt a d).bind fun b => some (b.1, b.2))) else some (false, a)) : Option (Bool × (List Int))).bind fun (g, c) => some (g, c)))
def si (a : List Int) (g : lC) : Option (Bool × (List Int)) :=
 ((qQ g).bind fun k => (((if k then ((vZ a g.lI).bind fun d => some (d.1, d.2)) else some (false, a)) : Option (Bool × (List Int))).bind fun (i, b) => (((if i then ((vZ b g.lM).bind fun c => some (c.1, c.2)) else some (false, b)) : Option (Bool × (List Int))).bind fun (j, h) => some (j, h))))
def vY (a : List Int) : Option (List Int) :=
 ((wx a).bind fun b => some b)
def yG (a0 : lB) : Option (List Int) :=
 ((uR a0).bind fun l => (if (!l) then some [] else ((pV ([]) a0.Kind).bind fun m => ((si m.2 a0.Head).bind fun a => (((if (a0.Kind == 1) then ((vZ a.2 a0.mS).bind fun d => some d.2) else (if (a0.Kind == 2) then ((si a.2 a0.B).bind fun g => some g.2) else (if (a0.Kind == 3) then ((si a.2 a0.B).bind fun h => ((vZ h.2 a0.mK).bind fun i => some i.2)) else (if (a0.Kind == 4) then ((si a.2 a0.B).bind fun j => ((si j.2 a0.C).bind fun k => some k.2)) else some a.2)))) : Option (List Int)).bind fun b => ((vY b).bind fun c => some c))))))
def B7 (a0 a : List Int) : Option Bool :=
 some (nq (BU a0) (BU a))
def rX (a0 : List lB) : Option (List lB) :=
 ((oI 136 ([]) a0).bind fun a => some a)
def qM (f1 : lB → Option Bool) : List lB → Nat → Option Int
 | [], _ => some (-1)
 | c :: a, i35 => ((f1 c).bind fun b => (if b then some (i35 : Int) else (qM f1 a (i35 + 1))))
def rM (a0 : List lB) (f1 : lB → Option Bool) : Option Int :=
 qM f1 a0 0
def pv (f1 : lB → Option Bool) : Nat → (List lB) → Int → Int → Option (List lB)
 | 0, _, _, _ => none
 | n321 + 1, b, a, c => (if (decide (c < (b.length : Int))) then ((((nD b c).bind fun d => ((f1 d).bind fun h => (if (!h) then ((nD b a).bind fun j => some ((b.set (Int.toNat a) d), (IntKind.i64.wrap (a + 1)))) else some (b, a)))) : Option ((List lB) × Int)).bind fun (g, i) => (pv f1 n321 g i (IntKind.i64.wrap (c + 1)))) else ((rG (decide (0 ≤ a) && decide (a ≤ (b.length : Int)))).bind fun _ => ((rG (decide (0 ≤ a) && decide (a ≤ ((pL b (Int.toNat a) (⟨0, (⟨zS, zS⟩ : lC), zS, (⟨zS, zS⟩ : lC), (⟨zS, zS⟩ : lC), zS⟩ : lB)).length : Int)))).bind fun _ => some ((pL b (Int.toNat a) (⟨0, (⟨zS, zS⟩ : lC), zS, (⟨zS, zS⟩ : lC), (⟨zS, zS⟩ : lC), zS⟩ : lB)).take (Int.toNat a)))))
def pq (a0 : List lB) (f1 : lB → Option Bool) : Option (List lB) :=
 ((rM a0 f1).bind fun a => (if (a == (-1)) then some a0 else pv f1 mR a0 a (IntKind.i64.wrap (a + 1))))
def zM (a0 : lB) : Option Bool :=
 ((uR a0).bind fun a => some (!a))
def yt (a0 a : List Int) : Option Int :=
 some (An a0 a)
def sN (a0 d : lB) : Option Int :=
 ((yG a0).bind fun a => ((yG d).bind fun b => ((yt a b).bind fun c => some c)))
def qa (b : Int) : Nat → (List lB) → Int → Int → Option ((List lB) × Int)
 | 0, _, _, _ => none
 | h + 1, a, c, d => (if (decide (d < ((a.length - (Int.toNat b) : Nat) : Int))) then ((((nD (a.drop (Int.toNat b)) d).bind fun j => ((nD (a.drop (Int.toNat b)) (IntKind.i64.wrap (d - 1))).bind fun k => (if (!(mC j k)) then ((nD (a.drop (Int.toNat b)) d).bind fun l => ((nD a c).bind fun m => some ((a.set (Int.toNat c) l), (IntKind.i64.wrap (c + 1))))) else some (a, c)))) : Option ((List lB) × Int)).bind fun (g, i) => (qa b h g i (IntKind.i64.wrap (d + 1)))) else some (a, c))
def qh (a0 : List lB) : Nat → Int → Option (List lB)
 | 0, _ => none
 | d + 1, a => (if (decide (a < (a0.length : Int))) then ((nD a0 a).bind fun g => ((nD a0 (IntKind.i64.wrap (a - 1))).bind fun h => (if (mC g h) then ((rG (decide (0 ≤ a) && decide (a ≤ (a0.length : Int)))).bind fun _ => ((qa a mR a0 a 1 : Option ((List lB) × Int)).bind fun (c, b) => ((rG (decide (0 ≤ b) && decide (b ≤ (c.length : Int)))).bind fun _ => ((rG (decide (0 ≤ b) && decide (b ≤ ((pL c (Int.toNat b) (⟨0, (⟨zS, zS⟩ : lC), zS, (⟨zS, zS⟩ : lC), (⟨zS, zS⟩ : lC), zS⟩ : lB)).length : Int)))).bind fun _ => some ((pL c (Int.toNat b) (⟨0, (⟨zS, zS⟩ : lC), zS, (⟨zS, zS⟩ : lC), (⟨zS, zS⟩ : lC), zS⟩ : lB)).take (Int.toNat b)))))) else (qh a0 d (IntKind.i64.wrap (a + 1)))))) else some a0)
def uW (a0 : List lB) : Option (List lB) :=
 (if (decide ((a0.length : Int) < 2)) then some a0 else qh a0 mR 1)
def oW (a0 : List lB) : Option (List lB) :=
 ((rX a0).bind fun d => ((pq d (fun (x : lB) => zM x)).bind fun a => ((zX (fun (x : (lB × lB)) => sN x.1 x.2) a).bind fun b => ((uW b).bind fun c => some c))))
def rZ (c : lB) : List lB → Nat → Option Int
 | [], _ => some (-1)
 | b :: a, i46 => (if (mC c b) then some (i46 : Int) else (rZ c a (i46 + 1)))
def yj (a0 : List lB) (a : lB) : Option Int :=
 rZ a a0 0
def uD (a0 : List lB) (a : lB) : Option Bool :=
 ((yj a0 a).bind fun b => some (decide (b ≥ 0)))
def rL (a0 : List lB) (a : lB) : Option Bool :=
 ((uD a0 a).bind fun b => some b)
def yB (a0 : lB) : Option (List lC) :=
 ((uR a0).bind fun g => (if (!g) then some [] else (((if (a0.Kind != 1) then ((oI 32 ([a0.Head]) ([a0.B])).bind fun d => some d) else some ([a0.Head])) : Option (List lC)).bind fun a => (((if (a0.Kind == 4) then ((oI 32 a ([a0.C])).bind fun c => some c) else some a) : Option (List lC)).bind fun b => some b))))
def qD (h : lB) (a : List (ByteArray × (List lB))) (d : List lB) : List lC → (List (lC × (List lB))) → Option ((List lB) × (List (lC × (List lB))) × (List (ByteArray × (List lB))))
 | [], b => (if (h.Kind == 3) then ((oI 136 ((nA nq a h.mK).getD []) ([h])).bind fun j => some (d, b, (oz nq a h.mK j))) else some (d, b, a))
 | c :: g, b => ((oI 136 ((nA lZ b c).getD []) ([h])).bind fun i => (qD h a d g (oz lZ b c i)))
def vy (h : List (lC × (List (ByteArray × Bool)))) (a : List lB) (c : List (lC × (List lB))) (b : List (ByteArray × (List lB))) (d : List lY) (k : Int) (i : lB) : Option ((List lB) × (List (lC × (List lB))) × (List (ByteArray × (List lB)))) :=
 ((oI 136 a ([i])).bind fun j => ((yB i).bind fun g => ((rG (decide (0 ≤ 1) && decide (1 ≤ (g.length : Int)))).bind fun _ => qD i b j (g.drop (Int.toNat 1)) c)))
def pM (a : List (lC × (List (ByteArray × Bool)))) (d : List lB) (h : List (lC × (List lB))) (g : List (ByteArray × (List lB))) (b : List lY) (c : Int) (i : lC) (a2 : ByteArray) : Option ((List (lC × (List (ByteArray × Bool)))) × (List lY) × Int) :=
 (if (ua nq ((nA lZ a i).getD []) a2 false) then some (a, b, c) else (((if (nA lZ a i).isNone then ((Is lZ a i ([])).bind fun j => some j) else some a) : Option (List (lC × (List (ByteArray × Bool))))).bind fun k => ((HZ lZ nq k i a2 true).bind fun l => ((oI 48 b ([(⟨i, a2⟩ : lY)])).bind fun m => some (l, m, (IntKind.i64.wrap (c + 1)))))))
def qR (a0 : List (ByteArray × Bool)) : Option Unit :=
 some ()
def sM (a : List (lC × (List (ByteArray × Bool)))) (b : List lB) (g : List (lC × (List lB))) (c : List (ByteArray × (List lB))) (d : List lY) (i : Int) (j : lC) : Option (List ByteArray) :=
 ((qR ((nA lZ a j).getD [])).bind fun k => ((IC ((nA lZ a j).getD [])).bind fun h => some h))
def sa (a : List lB) (c : List (lC × (List lB))) (b : List (ByteArray × (List lB))) (a2 : lC) : List ByteArray → (List (lC × (List (ByteArray × Bool)))) → (List lY) → Int → Option ((List (lC × (List (ByteArray × Bool)))) × (List lY) × Int)
 | [], d, g, i => some (d, g, i)
 | k :: j, d, g, i => ((pM d a c b g i a2 k).bind fun h => (sa a c b a2 j h.1 h.2.1 h.2.2))
def wk (g : List (lC × (List (ByteArray × Bool)))) (a : List lB) (d : List (lC × (List lB))) (b : List (ByteArray × (List lB))) (c : List lY) (h : Int) (i a2 : lC) : Option ((List (lC × (List (ByteArray × Bool)))) × (List lY) × Int) :=
 ((sM g a d b c h i).bind fun j => sa a d b a2 j g c h)
def uc (a : List (lC × (List (ByteArray × Bool)))) (c : List lB) (g : List (lC × (List lB))) (d : List (ByteArray × (List lB))) (b : List lY) (h : Int) (i : lB) (a2 : lY) : Option ((List (lC × (List (ByteArray × Bool)))) × (List lY) × Int) :=
 (if (i.Kind == 2) then ((pM a c g d b h i.Head a2.mS).bind fun l => some (l.1, l.2.1, l.2.2)) else (if (i.Kind == 3) then ((wk a c g d b h (⟨a2.mS, i.mK⟩ : lC) i.Head).bind fun j => some (j.1, j.2.1, j.2.2)) else (if (i.Kind == 4) then (((if (ua nq ((nA lZ a i.B).getD []) a2.mS false) then some (ua nq ((nA lZ a i.C).getD []) a2.mS false) else some false) : Option Bool).bind fun m => (if m then ((pM a c g d b h i.Head a2.mS).bind fun k => some (k.1, k.2.1, k.2.2)) else some (a, b, h))) else some (a, b, h))))
def rn (a : List lB) (c : List (lC × (List lB))) (b : List (ByteArray × (List lB))) (l : lB) : List ByteArray → (List (lC × (List (ByteArray × Bool)))) → (List lY) → Int → Option ((List (lC × (List (ByteArray × Bool)))) × (List lY) × Int)
 | [], d, g, i => some (d, g, i)
 | k :: j, d, g, i => ((uc d a c b g i l (⟨l.B, k⟩ : lY)).bind fun h => (rn a c b l j h.1 h.2.1 h.2.2))
def uV (g : List (lC × (List (ByteArray × Bool)))) (a : List lB) (d : List (lC × (List lB))) (b : List (ByteArray × (List lB))) (c : List lY) (h : Int) (i : lB) : Option ((List (lC × (List (ByteArray × Bool)))) × (List lY) × Int) :=
 (if (i.Kind == 1) then ((pM g a d b c h i.Head i.mS).bind fun k => some (k.1, k.2.1, k.2.2)) else ((sM g a d b c h i.B).bind fun j => rn a d b i j g c h))
def pP (h : lY) (a : List lB) (c : List (lC × (List lB))) (b : List (ByteArray × (List lB))) : List lB → (List (lC × (List (ByteArray × Bool)))) → (List lY) → Int → Option ((List (lC × (List (ByteArray × Bool)))) × (List lY) × Int)
 | [], d, g, i => some (d, g, i)
 | l :: k, d, g, i => (if (ua nq ((nA lZ d l.B).getD []) h.lC.lI false) then ((pM d a c b g i l.Head h.mS).bind fun j => (pP h a c b k j.1 j.2.1 j.2.2)) else (pP h a c b k d g i))
def qY (a : List lB) (c : List (lC × (List lB))) (b : List (ByteArray × (List lB))) (j : lY) : List lB → (List (lC × (List (ByteArray × Bool)))) → (List lY) → Int → Option ((List (lC × (List (ByteArray × Bool)))) × (List lY) × Int)
 | [], d, g, i => some (d, g, i)
 | l :: k, d, g, i => ((uc d a c b g i l j).bind fun h => (qY a c b j k h.1 h.2.1 h.2.2))
def ph (c : List lB) (b : List (lC × (List lB))) (a : List (ByteArray × (List lB))) : Nat → (List (lC × (List (ByteArray × Bool)))) → (List lY) → Int → Option ((List (lC × (List (ByteArray × Bool)))) × (List lY) × Int)
 | 0, _, _, _ => none
 | n + 1, h, d, i => (if (decide ((d.length : Int) > 0)) then ((nD d 0).bind fun g => ((rG (decide (0 ≤ 1) && decide (1 ≤ (d.length : Int)))).bind fun _ => ((qY c b a g ((nA lZ b g.lC).getD []) h (d.drop (Int.toNat 1)) i : Option ((List (lC × (List (ByteArray × Bool)))) × (List lY) × Int)).bind fun (j, k, o) => ((pP g c b a ((nA nq a g.lC.lM).getD []) j k o : Option ((List (lC × (List (ByteArray × Bool)))) × (List lY) × Int)).bind fun (l, m, q) => (ph c b a n l m q))))) else some (h, d, i))
def wO (g : List (lC × (List (ByteArray × Bool)))) (a : List lB) (d : List (lC × (List lB))) (b : List (ByteArray × (List lB))) (c : List lY) (h : Int) : Option ((List (lC × (List (ByteArray × Bool)))) × (List lY) × Int) :=
 ph a d b mR g c h
def pN (l : Int) : List lB → (List (lC × (List (ByteArray × Bool)))) → (List lB) → (List (lC × (List lB))) → (List (ByteArray × (List lB))) → (List lY) → Int → Option (Int × (List (lC × (List (ByteArray × Bool)))) × (List lB) × (List (lC × (List lB))) × (List (ByteArray × (List lB))) × (List lY) × Int)
 | [], c, a, d, g, h, i => ((wO c a d g h i).bind fun j => some ((IntKind.i64.wrap (j.2.2 - l)), j.1, a, d, g, j.2.1, j.2.2))
 | k :: n, c, a, d, g, h, i => ((uR k).bind fun o => (((if o then ((rL a k).bind fun q => some (!q)) else some false) : Option Bool).bind fun r => (if r then ((vy c a d g h i k).bind fun b => ((uV c b.1 b.2.1 b.2.2 h i k).bind fun m => (pN l n m.1 b.1 b.2.1 b.2.2 m.2.1 m.2.2))) else (pN l n c a d g h i))))
def wj (g : List (lC × (List (ByteArray × Bool)))) (a : List lB) (d : List (lC × (List lB))) (b : List (ByteArray × (List lB))) (c : List lY) (h : Int) (i : List lB) : Option (Int × (List (lC × (List (ByteArray × Bool)))) × (List lB) × (List (lC × (List lB))) × (List (ByteArray × (List lB))) × (List lY) × Int) :=
 pN h i g a d b c h
def xA (a0 : List lB) : Option ((List (lC × (List (ByteArray × Bool)))) × (List lB) × (List (lC × (List lB))) × (List (ByteArray × (List lB))) × (List lY) × Int) :=
 ((wj ([]) ([]) ([]) ([]) ([]) 0 a0).bind fun a => some (a.2.1, a.2.2.1, a.2.2.2.1, a.2.2.2.2.1, a.2.2.2.2.2.1, a.2.2.2.2.2.2))
def sn (a0 d : lY) : Option Int :=
 ((pG a0.lC d.lC).bind fun a => ((rO a0.mS d.mS).bind fun b => ((xd ([a, b])).bind fun c => some c)))
def yi (c : List (lC × (List (ByteArray × Bool)))) (d : List lB) (i : List (lC × (List lB))) (g : List (ByteArray × (List lB))) (h : List lY) (k : Int) : Option (List lY) :=
 ((PO 48 (fun (a : lC) (b : ByteArray) => (⟨a, b⟩ : lY)) c).bind fun l => GI l (fun j => ((zX (fun (x : (lY × lY)) => sn x.1 x.2) j).bind fun m => some m)))
def uq (a : List (lC × (List (ByteArray × Bool)))) (b : List lB) (g : List (lC × (List lB))) (c : List (ByteArray × (List lB))) (d : List lY) (h : Int) (i : lC) (a2 : ByteArray) : Option Bool :=
 some (ua nq ((nA lZ a i).getD []) a2 false)
def uj  : List lB → Int → Option Int
 | [], b => some b
 | a :: c, b => (uj c (IntKind.i64.wrap (b + (IntKind.i64.wrap ((IntKind.i64.wrap ((IntKind.i64.wrap ((IntKind.i64.wrap ((IntKind.i64.wrap ((IntKind.i64.wrap ((IntKind.i64.wrap ((IntKind.i64.wrap (20 + (a.Head.lI.size : Int))) + (a.Head.lM.size : Int))) + (a.mS.size : Int))) + (a.B.lI.size : Int))) + (a.B.lM.size : Int))) + (a.C.lI.size : Int))) + (a.C.lM.size : Int))) + (a.mK.size : Int))))))
def sv (a0 : List lB) : Option Int :=
 uj a0 0
def vW  : List Signed → Int → Option Int
 | [], a => some a
 | b :: c, a => ((sv ([b.lB])).bind fun d => (vW c (IntKind.i64.wrap (a + (IntKind.i64.wrap (d + (b.Tag.length : Int)))))))
def xH (g : List Signed) : List Key → Int → Option Int
 | [], a => ((vW g a : Option Int).bind fun b => some b)
 | c :: d, a => (xH g d (IntKind.i64.wrap (a + (IntKind.i64.wrap ((IntKind.i64.wrap (10 + (c.mS.size : Int))) + (c.Key.length : Int))))))
def Ac (a0 : List Key) (a : List Signed) : Option Int :=
 xH a a0 0
def vO (a0 : ByteArray) : Nat → Int → Option Bool
 | 0, _ => none
 | c + 1, b => (if (decide (b < (a0.size : Int))) then ((B9 a0 b).bind fun a => (((if (decide ((a.toNat : Int) < 97)) then some true else some (decide ((a.toNat : Int) > 122))) : Option Bool).bind fun d => (((if d then (((if (decide ((a.toNat : Int) < 48)) then some true else some (decide ((a.toNat : Int) > 57))) : Option Bool).bind fun i => some i) else some false) : Option Bool).bind fun g => (((if g then some ((a.toNat : Int) != 45) else some false) : Option Bool).bind fun h => (if h then some false else (vO a0 c (IntKind.i64.wrap (b + 1)))))))) else some true)
def vl (a0 : ByteArray) : Option Bool :=
 (((if (nq a0 zS) then some true else some (decide ((a0.size : Int) > 16))) : Option Bool).bind fun x2 => (((if x2 then some true else ((B9 a0 0).bind fun b => some (decide ((b.toNat : Int) < 97)))) : Option Bool).bind fun c => (((if c then some true else ((B9 a0 0).bind fun a => some (decide ((a.toNat : Int) > 122)))) : Option Bool).bind fun d => (if d then some false else vO a0 mR 0))))
def xU (a0 : lC) : Option Bool :=
 ((vl a0.lI).bind fun c => (((if c then ((vl a0.lM).bind fun a => some a) else some false) : Option Bool).bind fun b => some b))
def AN (a0 a : lC) : Option Bool :=
 (((if (tf a0.lI a.lI) then some true else (((if (nq a0.lI a.lI) then some (tf a0.lM a.lM) else some false) : Option Bool).bind fun c => some c)) : Option Bool).bind fun b => some b)
def zY (a0 : lB) : Option Bool :=
 ((xU a0.Head).bind fun s => (if (!s) then some false else (if (a0.Kind == 1) then ((vl a0.mS).bind fun h => (((if h then some (lZ a0.B (⟨zS, zS⟩ : lC)) else some false) : Option Bool).bind fun j => (((if j then some (lZ a0.C (⟨zS, zS⟩ : lC)) else some false) : Option Bool).bind fun k => (((if k then some (nq a0.mK zS) else some false) : Option Bool).bind fun l => some l)))) else (((if (!(nq a0.mS zS)) then some true else ((xU a0.B).bind fun c => some (!c))) : Option Bool).bind fun m => (if m then some false else (if (a0.Kind == 2) then (((if (lZ a0.C (⟨zS, zS⟩ : lC)) then some (nq a0.mK zS) else some false) : Option Bool).bind fun n => some n) else (if (a0.Kind == 3) then (((if (lZ a0.C (⟨zS, zS⟩ : lC)) then some (nq a0.B.lI a0.Head.lI) else some false) : Option Bool).bind fun o => (((if o then ((vl a0.mK).bind fun i => some i) else some false) : Option Bool).bind fun q => some q)) else (((if (a0.Kind == 4) then some (nq a0.mK zS) else some false) : Option Bool).bind fun r => (((if r then ((xU a0.C).bind fun b => some b) else some false) : Option Bool).bind fun d => (((if d then ((AN a0.B a0.C).bind fun a => some a) else some false) : Option Bool).bind fun g => some g))))))))))
def zr  : Nat → Int → ByteArray → Option ByteArray
 | 0, _, _ => none
 | n45 + 1, a, b => (if (decide (a ≥ 128)) then ((CP b (BU ([(IntKind.u8.wrap (IntKind.i64.wrap (128 + (Int.tmod a 128))))]))).bind fun c => (zr n45 (IntKind.i64.wrap (Int.tdiv a 128)) c)) else ((CP b (BU ([(IntKind.u8.wrap a)]))).bind fun d => some d))
def zh (a0 : Int) : Option ByteArray :=
 zr mR a0 zS
def xn (a0 : ByteArray) : Option ByteArray :=
 ((zh (a0.size : Int)).bind fun a => ((CP a a0).bind fun b => some b))
def xX (a0 : lC) : Option ByteArray :=
 ((xn a0.lI).bind fun a => ((xn a0.lM).bind fun b => ((CP a b).bind fun c => some c)))
def FM (a0 : lB) : Option ByteArray :=
 ((zh a0.Kind).bind fun d => ((xX a0.Head).bind fun g => ((CP d g).bind fun a => (if (a0.Kind == 1) then ((xn a0.mS).bind fun h => ((CP a h).bind fun l => some l)) else ((xX a0.B).bind fun i => ((CP a i).bind fun b => (((if (a0.Kind == 3) then ((xn a0.mK).bind fun k => ((CP b k).bind fun n => some n)) else some b) : Option ByteArray).bind fun c => (((if (a0.Kind == 4) then ((xX a0.C).bind fun j => ((CP c j).bind fun m => some m)) else some c) : Option ByteArray).bind fun o => some o))))))))
def zL (a0 : lB) : Option ByteArray :=
 ((zY a0).bind fun a => (if (!a) then some zS else ((FM a0).bind fun b => some b)))
def wE (a0 c : lB) : Option Int :=
 ((zL a0).bind fun a => ((zL c).bind fun b => (if (tf a b) then some (-1) else (if (!(tf a b || nq a b)) then some 1 else some 0))))
def vH (a : List lB) : List lB → Bool → lB → Option (Bool × lB)
 | [], c, d => some (c, d)
 | b :: g, c, d => ((zY b).bind fun h => (((if h then (((if ((a.length : Int) == 0) then some true else ((nD a (IntKind.i64.wrap ((a.length : Int) - 1))).bind fun o => ((wE o b).bind fun j => some (decide (j < 0))))) : Option Bool).bind fun n => some n) else some false) : Option Bool).bind fun k => (((if k then (((if (!c) then some true else ((wE b d).bind fun i => some (decide (i < 0)))) : Option Bool).bind fun m => some m) else some false) : Option Bool).bind fun l => (if l then (vH a g true b) else (vH a g c d)))))
def zb (a0 : List lB) : Nat → (List lB) → Option (List lB)
 | 0, _ => none
 | c + 1, a => ((vH a a0 false (⟨0, (⟨zS, zS⟩ : lC), zS, (⟨zS, zS⟩ : lC), (⟨zS, zS⟩ : lC), zS⟩ : lB) : Option (Bool × lB)).bind fun (d, g) => (if (!d) then some a else ((oI 136 a ([g])).bind fun b => (zb a0 c b))))
def HH (a0 : List lB) : Option (List lB) :=
 zb a0 mR ([])
def yR (c : lB) : List lB → Option Bool
 | [] => some false
 | b :: a => (if (mC b c) then some true else (yR c a))
def BD (a0 : List lB) (a : lB) : Option Bool :=
 yR a a0
def vK (a : List ByteArray) : List ByteArray → ByteArray → Option ByteArray
 | [], c => some c
 | b :: d, c => ((vl b).bind fun h => (((if h then (((if ((a.length : Int) == 0) then some true else ((nD a (IntKind.i64.wrap ((a.length : Int) - 1))).bind fun g => some (!(tf b g || nq b g)))) : Option Bool).bind fun l => some l) else some false) : Option Bool).bind fun i => (((if i then (((if (nq c zS) then some true else some (tf b c)) : Option Bool).bind fun k => some k) else some false) : Option Bool).bind fun j => (if j then (vK a d b) else (vK a d c)))))
def zf (a0 : List ByteArray) : Nat → (List ByteArray) → Option (List ByteArray)
 | 0, _ => none
 | d + 1, a => ((vK a a0 zS : Option ByteArray).bind fun b => (if (nq b zS) then some a else ((oI 16 a ([b])).bind fun c => (zf a0 d c))))
def DP (a0 : List ByteArray) : Option (List ByteArray) :=
 zf a0 mR ([])
def we  : List lB → (List ByteArray) → Option (List ByteArray)
 | [], b => ((DP b).bind fun d => some d)
 | a :: g, b => ((oI 16 b ([a.mS, a.Head.lI, a.B.lI, a.C.lI])).bind fun c => (we g c))
def BW (a0 : List lB) : Option (List ByteArray) :=
 we a0 ([])
def zK (d : lC) (a2 : ByteArray) : List lY → Option Bool
 | [] => some false
 | b :: c => (((if (lZ b.lC d) then some (nq b.mS a2) else some false) : Option Bool).bind fun a => (if a then some true else (zK d a2 c)))
def xF (a0 : List lY) (a : lC) (a2 : ByteArray) : Option Bool :=
 zK a a2 a0
def yn (a0 : List lY) (h : lB) (a3 : ByteArray) : List ByteArray → Option Bool
 | [] => some false
 | a :: b => ((xF a0 h.B a).bind fun c => (((if c then ((xF a0 (⟨a, h.mK⟩ : lC) a3).bind fun d => some d) else some false) : Option Bool).bind fun g => (if g then some true else (yn a0 h a3 b))))
def CZ (a0 : List lY) (a : lB) (a2 : List ByteArray) (a3 : ByteArray) : Option Bool :=
 (if (a.Kind == 1) then some (nq a.mS a3) else (if (a.Kind == 2) then ((xF a0 a.B a3).bind fun d => some d) else (if (a.Kind == 4) then ((xF a0 a.B a3).bind fun g => (((if g then ((xF a0 a.C a3).bind fun b => some b) else some false) : Option Bool).bind fun c => some c)) else yn a0 a a3 a2)))
def xc (a0 a : lY) : Option Bool :=
 ((AN a0.lC a.lC).bind fun d => (((if d then some true else (((if (lZ a0.lC a.lC) then some (tf a0.mS a.mS) else some false) : Option Bool).bind fun c => some c)) : Option Bool).bind fun b => some b))
def rR (b a0 : List lY) : List lY → Nat → Int → Option Int
 | [], _, a => some a
 | g :: d, c, a => (((if ((b.length : Int) == 0) then some true else ((nD b (IntKind.i64.wrap ((b.length : Int) - 1))).bind fun n => ((xc n g).bind fun i => some i))) : Option Bool).bind fun j => (((if j then (((if (decide (a < 0)) then some true else ((nD a0 a).bind fun m => ((xc g m).bind fun h => some h))) : Option Bool).bind fun l => some l) else some false) : Option Bool).bind fun k => (if k then (rR b a0 d (c + 1) (c : Int)) else (rR b a0 d (c + 1) a))))
def rN (a0 : List lY) : List lY → (List lY) → Option (List lY)
 | [], a => some a
 | h :: c, a => ((rR a a0 a0 0 (-1) : Option Int).bind fun b => (if (decide (b ≥ 0)) then ((nD a0 b).bind fun g => ((oI 48 a ([g])).bind fun d => (rN a0 c d))) else (rN a0 c a)))
def EB (a0 : List lY) : Option (List lY) :=
 rN a0 a0 ([])
def xY (b : lB) (l : List ByteArray) : List ByteArray → (List lY) → Bool → Option ((List lY) × Bool)
 | [], a, d => some (a, d)
 | c :: g, a, d => ((xF a b.Head c).bind fun i => (((if (!i) then ((CZ a b l c).bind fun j => some j) else some false) : Option Bool).bind fun k => (if k then ((oI 48 a ([(⟨b.Head, c⟩ : lY)])).bind fun h => (xY b l g h true)) else (xY b l g a d))))
def Aa (i : List ByteArray) : List lB → (List lY) → Bool → Option ((List lY) × Bool)
 | [], a, b => some (a, b)
 | g :: c, a, b => ((xY g i i a b : Option ((List lY) × Bool)).bind fun (d, h) => (Aa i c d h))
def zP (h : List ByteArray) (i : List lB) : Nat → (List lY) → Option (List lY)
 | 0, _ => none
 | b + 1, g => ((Aa h i g false : Option ((List lY) × Bool)).bind fun (a, d) => (if (!d) then ((EB a).bind fun c => some c) else (zP h i b a)))
def Cj (a0 : List lB) : Option (List lY) :=
 ((HH a0).bind fun b => ((BW b).bind fun a => zP a b mR ([])))
def AR (a0 : List lB) (b : ByteArray) : Option ((List (lC × (List (ByteArray × Bool)))) × (List lB) × (List (lC × (List lB))) × (List (ByteArray × (List lB))) × (List lY) × Int × ByteArray) :=
 ((xA a0).bind fun a => some (a.1, a.2.1, a.2.2.1, a.2.2.2.1, a.2.2.2.2.1, a.2.2.2.2.2, b))
def pd (f1 : mG → Option Bool) : List mG → Nat → Option Int
 | [], _ => some (-1)
 | c :: a, i47 => ((f1 c).bind fun b => (if b then some (i47 : Int) else (pd f1 a (i47 + 1))))
def qS (a0 : List mG) (f1 : mG → Option Bool) : Option Int :=
 pd f1 a0 0
def yp (a0 : mG) (a : lB) : Option Bool :=
 some (mC a0.Signed.lB a)
def AH (a0 : lF) (c : lB) : Option (mG × Bool) :=
 ((qS a0.lX (fun (x : mG) => yp x c)).bind fun a => (if (decide (a < 0)) then some ((⟨(⟨(⟨0, (⟨zS, zS⟩ : lC), zS, (⟨zS, zS⟩ : lC), (⟨zS, zS⟩ : lC), zS⟩ : lB), []⟩ : Signed), (⟨0, 0, (⟨zS, zS⟩ : lC), []⟩ : Formula)⟩ : mG), false) else ((nD a0.lX a).bind fun b => some (b, true))))
def qu (a0 : List ny) : Option (List ny) :=
 ((oI 128 ([]) a0).bind fun a => some a)
def pQ (f1 : ny → Option Bool) : List ny → Nat → Option Int
 | [], _ => some (-1)
 | c :: a, i47 => ((f1 c).bind fun b => (if b then some (i47 : Int) else (pQ f1 a (i47 + 1))))
def qV (a0 : List ny) (f1 : ny → Option Bool) : Option Int :=
 pQ f1 a0 0
def pH (f1 : ny → Option Bool) : Nat → (List ny) → Int → Int → Option (List ny)
 | 0, _, _, _ => none
 | h + 1, b, a, c => (if (decide (c < (b.length : Int))) then ((((nD b c).bind fun d => ((f1 d).bind fun i => (if (!i) then ((nD b a).bind fun k => some ((b.set (Int.toNat a) d), (IntKind.i64.wrap (a + 1)))) else some (b, a)))) : Option ((List ny) × Int)).bind fun (g, j) => (pH f1 h g j (IntKind.i64.wrap (c + 1)))) else ((rG (decide (0 ≤ a) && decide (a ≤ (b.length : Int)))).bind fun _ => ((rG (decide (0 ≤ a) && decide (a ≤ ((pL b (Int.toNat a) (⟨(⟨zS, zS⟩ : lC), (⟨0, 0, (⟨zS, zS⟩ : lC), []⟩ : Formula), []⟩ : ny)).length : Int)))).bind fun _ => some ((pL b (Int.toNat a) (⟨(⟨zS, zS⟩ : lC), (⟨0, 0, (⟨zS, zS⟩ : lC), []⟩ : Formula), []⟩ : ny)).take (Int.toNat a)))))
def oP (a0 : List ny) (f1 : ny → Option Bool) : Option (List ny) :=
 ((qV a0 f1).bind fun a => (if (a == (-1)) then some a0 else pH f1 mR a0 a (IntKind.i64.wrap (a + 1))))
def ux (a0 : ny) (a : lB) : Option Bool :=
 ((rL a0.nn a).bind fun b => some (!b))
def zT (a0 : lF) (b : lB) : Option (List ny) :=
 ((qu a0.ml).bind fun c => ((oP c (fun (x : ny) => ux x b)).bind fun a => some a))
def rC (g : Int) (rec : Formula → Int → Option (Int × Int)) : List Formula → Int → Int → Option (Int × Int)
 | [], a, c => some (a, c)
 | h :: d, a, c => (if (decide (a > g)) then some (a, c) else ((rec h (IntKind.i64.wrap (g - a))).bind fun b => (rC g rec d (IntKind.i64.wrap (a + b.1)) (if b.2 > c then b.2 else c))))
def xz (rec : Formula → Int → Option (Int × Int)) (a0 : Formula) (c : Int) : Option (Int × Int) :=
 ((rC c rec a0.Kids 1 0 : Option (Int × Int)).bind fun (a, b) => some (a, (IntKind.i64.wrap (b + 1))))
def qj : Nat → Formula → Int → Option (Int × Int)
 | 0 => fun _ _ => none
 | n + 1 => xz (qj n)
def yX (a0 : Formula) : Option (Int × Int) :=
 ((qj mR a0 4096).bind fun a => (if (decide (a.1 > 4096)) then some (0, 0) else some (a.1, a.2)))
def yW (a0 : Formula) : Option Bool :=
 (if (a0.Op == 1) then ((qQ a0.lC).bind fun d => (((if d then some ((a0.Kids.length : Int) == 0) else some false) : Option Bool).bind fun g => (((if g then some (a0.K == 0) else some false) : Option Bool).bind fun h => some h))) else (((if (a0.Op == 2) then some (a0.Op == 2) else some (a0.Op == 3)) : Option Bool).bind fun i => (if i then (((if (lZ a0.lC (⟨zS, zS⟩ : lC)) then some (a0.K == 0) else some false) : Option Bool).bind fun j => some j) else (((if (a0.Op == 4) then some (lZ a0.lC (⟨zS, zS⟩ : lC)) else some false) : Option Bool).bind fun k => (((if k then some (decide (a0.K ≥ 0)) else some false) : Option Bool).bind fun a => (((if a then some (decide (a0.K ≤ (a0.Kids.length : Int))) else some false) : Option Bool).bind fun b => (((if b then some (decide ((a0.Kids.length : Int) ≥ 1)) else some false) : Option Bool).bind fun c => some c)))))))
def pe (f1 : Formula → Option Bool) : List Formula → Nat → Option Int
 | [], _ => some (-1)
 | c :: a, i41 => ((f1 c).bind fun b => (if b then some (i41 : Int) else (pe f1 a (i41 + 1))))
def vk (a0 : List Formula) (f1 : Formula → Option Bool) : Option Int :=
 pe f1 a0 0
def pT (a0 : List Formula) (f1 : Formula → Option Bool) : Option Bool :=
 ((vk a0 f1).bind fun a => some (decide (a ≥ 0)))
def wz (rec : Formula → Option Bool) (a0 : Formula) : Option Bool :=
 ((rec a0).bind fun a => some (!a))
def xE (rec : Formula → Option Bool) (a0 : Formula) : Option Bool :=
 ((yW a0).bind fun c => (((if c then some (decide ((a0.Kids.length : Int) ≤ 8)) else some false) : Option Bool).bind fun d => (((if d then ((pT a0.Kids (fun (x : Formula) => wz rec x)).bind fun a => some (!a)) else some false) : Option Bool).bind fun b => some b)))
def tM : Nat → Formula → Option Bool
 | 0 => fun _ => none
 | n + 1 => xE (tM n)
def rb (a0 : Formula) : Option Bool :=
 ((yX a0).bind fun b => (((if (decide (b.1 ≥ 1)) then some (decide (b.1 ≤ 64)) else some false) : Option Bool).bind fun g => (((if g then some (decide (b.2 ≤ 6)) else some false) : Option Bool).bind fun c => (((if c then ((tM mR a0).bind fun a => some a) else some false) : Option Bool).bind fun d => some d))))
def vJ (a0 : Formula) (a : Int) : Option Bool :=
 (((if (a0.Op == a) then some ((a0.Kids.length : Int) == 0) else some false) : Option Bool).bind fun x6 => some x6)
def AQ  : Option Formula :=
 some (⟨2, 0, (⟨zS, zS⟩ : lC), []⟩ : Formula)
def Bm  : Option Formula :=
 some (⟨3, 0, (⟨zS, zS⟩ : lC), []⟩ : Formula)
def sG (a0 : Int) : List Formula → (List Formula) → Option (List Formula)
 | [], a => some a
 | b :: c, a => (if (b.Op == a0) then ((oI 72 a b.Kids).bind fun d => (sG a0 c d)) else ((oI 72 a ([b])).bind fun g => (sG a0 c g)))
def B6 (a0 : Int) (a : List Formula) : Option (List Formula) :=
 sG a0 a ([])
def sQ (a0 : Formula) (a : Int) : Option Bool :=
 ((vJ a0 a).bind fun b => some b)
def uB (a0 : List Formula) : Option (List Formula) :=
 ((oI 72 ([]) a0).bind fun a => some a)
def nR (n : Int) (f3 : (Formula × Formula) → Option Int) : Nat → (List Formula) → Int → Option (List Formula)
 | 0, _, _ => none
 | g + 1, b, a => (((if (decide (a > n)) then ((nD b a).bind fun j => ((nD b (IntKind.i64.wrap (a - 1))).bind fun k => ((f3 (j, k)).bind fun h => some (decide (h < 0))))) else some false) : Option Bool).bind fun i => (if i then ((nD b (IntKind.i64.wrap (a - 1))).bind fun d => ((nD b a).bind fun c => ((nD b a).bind fun l => ((nD (b.set (Int.toNat a) d) (IntKind.i64.wrap (a - 1))).bind fun m => (nR n f3 g ((b.set (Int.toNat a) d).set (Int.toNat (IntKind.i64.wrap (a - 1))) (⟨c.Op, c.K, c.lC, c.Kids⟩ : Formula)) (IntKind.i64.wrap (a - 1))))))) else some b))
def nG (a2 g : Int) (f3 : (Formula × Formula) → Option Int) : Nat → (List Formula) → Int → Option (List Formula)
 | 0, _, _ => none
 | d + 1, b, a => (if (decide (a < a2)) then ((nR g f3 mR b a : Option (List Formula)).bind fun c => (nG a2 g f3 d c (IntKind.i64.wrap (a + 1)))) else some b)
def oU (a0 : List Formula) (a a2 : Int) (f3 : (Formula × Formula) → Option Int) : Option (List Formula) :=
 nG a2 a f3 mR a0 (IntKind.i64.wrap (a + 1))
def og (a3 a2 g : Int) : Nat → (List Formula) → Int → Option (List Formula)
 | 0, _, _ => none
 | h + 1, b, a => (if (decide (a < a3)) then ((nD b (IntKind.i64.wrap (a2 + a))).bind fun d => ((nD b (IntKind.i64.wrap (g + a))).bind fun c => ((nD b (IntKind.i64.wrap (g + a))).bind fun i => ((nD (b.set (Int.toNat (IntKind.i64.wrap (g + a))) d) (IntKind.i64.wrap (a2 + a))).bind fun j => (og a3 a2 g h ((b.set (Int.toNat (IntKind.i64.wrap (g + a))) d).set (Int.toNat (IntKind.i64.wrap (a2 + a))) (⟨c.Op, c.K, c.lC, c.Kids⟩ : Formula)) (IntKind.i64.wrap (a + 1))))))) else some b)
def oO (a0 : List Formula) (a a2 a3 : Int) (f4 : (Formula × Formula) → Option Int) : Option (List Formula) :=
 og a3 a2 a mR a0 0
def ox (a2 : Int) (f4 : (Formula × Formula) → Option Int) : Nat → (List Formula) → Int → Int → Option (List Formula)
 | 0, _, _, _ => none
 | n185 + 1, c, a, b => (if (a != b) then (if (decide (a > b)) then ((oO c (IntKind.i64.wrap (a2 - a)) a2 b f4).bind fun d => (ox a2 f4 n185 d (IntKind.i64.wrap (a - b)) b)) else ((oO c (IntKind.i64.wrap (a2 - a)) (IntKind.i64.wrap ((IntKind.i64.wrap (a2 + b)) - a)) a f4).bind fun g => (ox a2 f4 n185 g a (IntKind.i64.wrap (b - a))))) else ((oO c (IntKind.i64.wrap (a2 - a)) a2 a f4).bind fun h => some h))
def oJ (a0 : List Formula) (a a2 a3 : Int) (f4 : (Formula × Formula) → Option Int) : Option (List Formula) :=
 ox a2 f4 mR a0 (IntKind.i64.wrap (a2 - a)) (IntKind.i64.wrap (a3 - a2))
def ot (g : Int) : Nat → (List Formula) → Int → Option (List Formula)
 | 0, _, _ => none
 | h + 1, b, a => (if (decide (a < (IntKind.i64.wrap (g - 1)))) then ((nD b (IntKind.i64.wrap (a + 1))).bind fun d => ((nD b a).bind fun c => ((nD b a).bind fun i => ((nD (b.set (Int.toNat a) d) (IntKind.i64.wrap (a + 1))).bind fun j => (ot g h ((b.set (Int.toNat a) d).set (Int.toNat (IntKind.i64.wrap (a + 1))) (⟨c.Op, c.K, c.lC, c.Kids⟩ : Formula)) (IntKind.i64.wrap (a + 1))))))) else some b)
def nw (a0 : List Formula) (i : Int) (f4 : (Formula × Formula) → Option Int) : Nat → Int → Int → Option (List Formula)
 | 0, _, _ => none
 | n325 + 1, a, b => (if (decide (a < b)) then ((nD a0 (IntKind.i64.wrap (Int.fdiv (IntKind.u64.wrap (IntKind.i64.wrap (a + b))) (2 ^ min (Int.toNat 1) (IntKind.bits .u64))))).bind fun g => ((nD a0 i).bind fun h => ((f4 (g, h)).bind fun d => (if (decide (d < 0)) then (nw a0 i f4 n325 (IntKind.i64.wrap ((IntKind.i64.wrap (Int.fdiv (IntKind.u64.wrap (IntKind.i64.wrap (a + b))) (2 ^ min (Int.toNat 1) (IntKind.bits .u64)))) + 1)) b) else (nw a0 i f4 n325 a (IntKind.i64.wrap (Int.fdiv (IntKind.u64.wrap (IntKind.i64.wrap (a + b))) (2 ^ min (Int.toNat 1) (IntKind.bits .u64))))))))) else ((ot a mR a0 i : Option (List Formula)).bind fun c => some c))
def oq (d : Int) : Nat → (List Formula) → Int → Option (List Formula)
 | 0, _, _ => none
 | h + 1, b, a => (if (decide (a > d)) then ((nD b (IntKind.i64.wrap (a - 1))).bind fun g => ((nD b a).bind fun c => ((nD b a).bind fun i => ((nD (b.set (Int.toNat a) g) (IntKind.i64.wrap (a - 1))).bind fun j => (oq d h ((b.set (Int.toNat a) g).set (Int.toNat (IntKind.i64.wrap (a - 1))) (⟨c.Op, c.K, c.lC, c.Kids⟩ : Formula)) (IntKind.i64.wrap (a - 1))))))) else some b)
def nx (a0 : List Formula) (a2 : Int) (f4 : (Formula × Formula) → Option Int) : Nat → Int → Int → Option (List Formula)
 | 0, _, _ => none
 | c + 1, a, b => (if (decide (a < b)) then ((nD a0 a2).bind fun h => ((nD a0 (IntKind.i64.wrap (Int.fdiv (IntKind.u64.wrap (IntKind.i64.wrap (a + b))) (2 ^ min (Int.toNat 1) (IntKind.bits .u64))))).bind fun i => ((f4 (h, i)).bind fun g => (if (!(decide (g < 0))) then (nx a0 a2 f4 c (IntKind.i64.wrap ((IntKind.i64.wrap (Int.fdiv (IntKind.u64.wrap (IntKind.i64.wrap (a + b))) (2 ^ min (Int.toNat 1) (IntKind.bits .u64)))) + 1)) b) else (nx a0 a2 f4 c a (IntKind.i64.wrap (Int.fdiv (IntKind.u64.wrap (IntKind.i64.wrap (a + b))) (2 ^ min (Int.toNat 1) (IntKind.bits .u64))))))))) else ((oq a mR a0 a2 : Option (List Formula)).bind fun d => some d))
def ni (a0 : List Formula) (c a3 a2 : Int) (f4 : (Formula × Formula) → Option Int) (rec : (List Formula) → Int → Int → Int → ((Formula × Formula) → Option Int) → Option (List Formula)) : Nat → Int → Int → Option (List Formula)
 | 0, _, _ => none
 | h + 1, a, b => (if (decide (a < b)) then ((nD a0 (IntKind.i64.wrap ((IntKind.i64.wrap ((IntKind.i64.wrap ((IntKind.i64.wrap (Int.fdiv (IntKind.u64.wrap (IntKind.i64.wrap (c + a3))) (2 ^ min (Int.toNat 1) (IntKind.bits .u64)))) + a2)) - 1)) - (IntKind.i64.wrap (Int.fdiv (IntKind.u64.wrap (IntKind.i64.wrap (a + b))) (2 ^ min (Int.toNat 1) (IntKind.bits .u64))))))).bind fun m => ((nD a0 (IntKind.i64.wrap (Int.fdiv (IntKind.u64.wrap (IntKind.i64.wrap (a + b))) (2 ^ min (Int.toNat 1) (IntKind.bits .u64))))).bind fun n => ((f4 (m, n)).bind fun i => (if (!(decide (i < 0))) then (ni a0 c a3 a2 f4 rec h (IntKind.i64.wrap ((IntKind.i64.wrap (Int.fdiv (IntKind.u64.wrap (IntKind.i64.wrap (a + b))) (2 ^ min (Int.toNat 1) (IntKind.bits .u64)))) + 1)) b) else (ni a0 c a3 a2 f4 rec h a (IntKind.i64.wrap (Int.fdiv (IntKind.u64.wrap (IntKind.i64.wrap (a + b))) (2 ^ min (Int.toNat 1) (IntKind.bits .u64))))))))) else (((((if (decide (a < a2)) then some (decide (a2 < (IntKind.i64.wrap ((IntKind.i64.wrap ((IntKind.i64.wrap (Int.fdiv (IntKind.u64.wrap (IntKind.i64.wrap (c + a3))) (2 ^ min (Int.toNat 1) (IntKind.bits .u64)))) + a2)) - a)))) else some false) : Option Bool).bind fun r => (if r then ((oJ a0 a a2 (IntKind.i64.wrap ((IntKind.i64.wrap ((IntKind.i64.wrap (Int.fdiv (IntKind.u64.wrap (IntKind.i64.wrap (c + a3))) (2 ^ min (Int.toNat 1) (IntKind.bits .u64)))) + a2)) - a)) f4).bind fun l => some l) else some a0)) : Option (List Formula)).bind fun d => (((((if (decide (c < a)) then some (decide (a < (IntKind.i64.wrap (Int.fdiv (IntKind.u64.wrap (IntKind.i64.wrap (c + a3))) (2 ^ min (Int.toNat 1) (IntKind.bits .u64)))))) else some false) : Option Bool).bind fun q => (if q then ((rec d c a (IntKind.i64.wrap (Int.fdiv (IntKind.u64.wrap (IntKind.i64.wrap (c + a3))) (2 ^ min (Int.toNat 1) (IntKind.bits .u64)))) f4).bind fun k => some k) else some d)) : Option (List Formula)).bind fun g => (((if (decide ((IntKind.i64.wrap (Int.fdiv (IntKind.u64.wrap (IntKind.i64.wrap (c + a3))) (2 ^ min (Int.toNat 1) (IntKind.bits .u64)))) < (IntKind.i64.wrap ((IntKind.i64.wrap ((IntKind.i64.wrap (Int.fdiv (IntKind.u64.wrap (IntKind.i64.wrap (c + a3))) (2 ^ min (Int.toNat 1) (IntKind.bits .u64)))) + a2)) - a)))) then some (decide ((IntKind.i64.wrap ((IntKind.i64.wrap ((IntKind.i64.wrap (Int.fdiv (IntKind.u64.wrap (IntKind.i64.wrap (c + a3))) (2 ^ min (Int.toNat 1) (IntKind.bits .u64)))) + a2)) - a)) < a3)) else some false) : Option Bool).bind fun o => (if o then ((rec g (IntKind.i64.wrap (Int.fdiv (IntKind.u64.wrap (IntKind.i64.wrap (c + a3))) (2 ^ min (Int.toNat 1) (IntKind.bits .u64)))) (IntKind.i64.wrap ((IntKind.i64.wrap ((IntKind.i64.wrap (Int.fdiv (IntKind.u64.wrap (IntKind.i64.wrap (c + a3))) (2 ^ min (Int.toNat 1) (IntKind.bits .u64)))) + a2)) - a)) a3 f4).bind fun j => some j) else some g)))))
def rf (rec : (List Formula) → Int → Int → Int → ((Formula × Formula) → Option Int) → Option (List Formula)) (a0 : List Formula) (a a2 a3 : Int) (f4 : (Formula × Formula) → Option Int) : Option (List Formula) :=
 (if ((IntKind.i64.wrap (a2 - a)) == 1) then nw a0 a f4 mR a2 a3 else (if ((IntKind.i64.wrap (a3 - a2)) == 1) then nx a0 a2 f4 mR a a2 else (((if (decide (a2 > (IntKind.i64.wrap (Int.fdiv (IntKind.u64.wrap (IntKind.i64.wrap (a + a3))) (2 ^ min (Int.toNat 1) (IntKind.bits .u64)))))) then some ((IntKind.i64.wrap ((IntKind.i64.wrap ((IntKind.i64.wrap (Int.fdiv (IntKind.u64.wrap (IntKind.i64.wrap (a + a3))) (2 ^ min (Int.toNat 1) (IntKind.bits .u64)))) + a2)) - a3)), (IntKind.i64.wrap (Int.fdiv (IntKind.u64.wrap (IntKind.i64.wrap (a + a3))) (2 ^ min (Int.toNat 1) (IntKind.bits .u64))))) else some (a, a2)) : Option (Int × Int)).bind fun (b, c) => ni a0 a a3 a2 f4 rec mR b c)))
def nJ : Nat → (List Formula) → Int → Int → Int → ((Formula × Formula) → Option Int) → Option (List Formula)
 | 0 => fun _ _ _ _ _ => none
 | n + 1 => rf (nJ n)
def ow (i b : Int) (f2 : (Formula × Formula) → Option Int) : Nat → (List Formula) → Int → Int → Option ((List Formula) × Int)
 | 0, _, _, _ => none
 | g + 1, d, c, a => (if (decide (a ≤ i)) then ((nJ mR d c (IntKind.i64.wrap (c + b)) a f2).bind fun h => (ow i b f2 g h a (IntKind.i64.wrap (a + (IntKind.i64.wrap (2 * b)))))) else some (d, c))
def nW (j : Int) (f2 : (Formula × Formula) → Option Int) : Nat → (List Formula) → Int → Option (List Formula)
 | 0, _, _ => none
 | h + 1, c, a => (if (decide (a < j)) then ((ow j a f2 mR c 0 (IntKind.i64.wrap (2 * a)) : Option ((List Formula) × Int)).bind fun (d, b) => (((if (decide ((IntKind.i64.wrap (b + a)) < j)) then ((nJ mR d b (IntKind.i64.wrap (b + a)) j f2).bind fun i => some i) else some d) : Option (List Formula)).bind fun g => (nW j f2 h g (IntKind.i64.wrap (a * 2))))) else some c)
def nX (i : Int) (f2 : (Formula × Formula) → Option Int) : Nat → (List Formula) → Int → Int → Option (List Formula)
 | 0, _, _, _ => none
 | n123 + 1, c, h, a => (if (decide (a ≤ i)) then ((oU c h a f2).bind fun d => (nX i f2 n123 d a (IntKind.i64.wrap (a + 20)))) else ((oU c h i f2).bind fun g => ((nW i f2 mR g 20 : Option (List Formula)).bind fun b => some b)))
def tI (a0 : List Formula) (a : Int) (f2 : (Formula × Formula) → Option Int) : Option (List Formula) :=
 nX a f2 mR a0 0 20
def qT (a0 : List Formula) (f1 : (Formula × Formula) → Option Int) : Option (List Formula) :=
 ((tI a0 (a0.length : Int) f1).bind fun a => some a)
def sH (rec : (List Int) → Formula → Option (List Int)) : List Formula → (List Int) → Option (List Int)
 | [], a => some a
 | d :: b, a => ((rec a d).bind fun c => (sH rec b c))
def xJ (rec : (List Int) → Formula → Option (List Int)) (b : List Int) (a : Formula) : Option (List Int) :=
 ((pV b a.Op).bind fun h => (if (a.Op == 1) then ((si h.2 a.lC).bind fun g => some g.2) else (((if (a.Op == 4) then ((pV h.2 a.K).bind fun c => some c.2) else some h.2) : Option (List Int)).bind fun d => ((pV d (a.Kids.length : Int)).bind fun i => sH rec a.Kids i.2))))
def rT : Nat → (List Int) → Formula → Option (List Int)
 | 0 => fun _ _ => none
 | n + 1 => xJ (rT n)
def yq (a : List Int) (b : Formula) : Option (Bool × (List Int)) :=
 ((rb b).bind fun c => (if (!c) then some (false, a) else ((rT mR a b).bind fun d => some (true, d))))
def vp (a0 : Formula) : Option (List Int) :=
 ((yq ([]) a0).bind fun b => ((vY b.2).bind fun a => some a))
def vn (a0 d : Formula) : Option Int :=
 ((vp a0).bind fun a => ((vp d).bind fun b => ((yt a b).bind fun c => some c)))
def xl (a0 : List Formula) : Option (List Formula) :=
 ((uB a0).bind fun b => ((qT b (fun (x : (Formula × Formula)) => vn x.1 x.2)).bind fun a => some a))
def oE (b : Int) (f1 : (Formula × Formula) → Option Bool) : Nat → (List Formula) → Int → Int → Option ((List Formula) × Int)
 | 0, _, _, _ => none
 | h + 1, a, c, d => (if (decide (d < ((a.length - (Int.toNat b) : Nat) : Int))) then ((((nD (a.drop (Int.toNat b)) d).bind fun k => ((nD (a.drop (Int.toNat b)) (IntKind.i64.wrap (d - 1))).bind fun l => ((f1 (k, l)).bind fun i => (if (!i) then ((nD (a.drop (Int.toNat b)) d).bind fun m => ((nD a c).bind fun n => some ((a.set (Int.toNat c) m), (IntKind.i64.wrap (c + 1))))) else some (a, c))))) : Option ((List Formula) × Int)).bind fun (g, j) => (oE b f1 h g j (IntKind.i64.wrap (d + 1)))) else some (a, c))
def oC (a0 : List Formula) (f1 : (Formula × Formula) → Option Bool) : Nat → Int → Option (List Formula)
 | 0, _ => none
 | d + 1, a => (if (decide (a < (a0.length : Int))) then ((nD a0 a).bind fun h => ((nD a0 (IntKind.i64.wrap (a - 1))).bind fun i => ((f1 (h, i)).bind fun g => (if g then ((rG (decide (0 ≤ a) && decide (a ≤ (a0.length : Int)))).bind fun _ => ((oE a f1 mR a0 a 1 : Option ((List Formula) × Int)).bind fun (c, b) => ((rG (decide (0 ≤ b) && decide (b ≤ (c.length : Int)))).bind fun _ => ((rG (decide (0 ≤ b) && decide (b ≤ ((pL c (Int.toNat b) (⟨0, 0, (⟨zS, zS⟩ : lC), []⟩ : Formula)).length : Int)))).bind fun _ => some ((pL c (Int.toNat b) (⟨0, 0, (⟨zS, zS⟩ : lC), []⟩ : Formula)).take (Int.toNat b)))))) else (oC a0 f1 d (IntKind.i64.wrap (a + 1))))))) else some a0)
def rI (a0 : List Formula) (f1 : (Formula × Formula) → Option Bool) : Option (List Formula) :=
 (if (decide ((a0.length : Int) < 2)) then some a0 else oC a0 f1 mR 1)
def nv (g : List Formula) (f2 : (Formula × Formula) → Option Bool) : List Formula → Nat → Option Bool
 | [], _ => some true
 | d :: c, i95 => ((nD g (i95 : Int)).bind fun b => ((f2 (d, b)).bind fun a => (if (!a) then some false else (nv g f2 c (i95 + 1)))))
def oD (a0 a : List Formula) (f2 : (Formula × Formula) → Option Bool) : Option Bool :=
 (if ((a0.length : Int) != (a.length : Int)) then some false else nv a f2 a0 0)
def yg (rec : Formula → Formula → Option Bool) (a0 a : Formula) : Option Bool :=
 (((if (a0.Op == a.Op) then some (a0.K == a.K) else some false) : Option Bool).bind fun c => (((if c then some (lZ a0.lC a.lC) else some false) : Option Bool).bind fun d => (((if d then ((oD a0.Kids a.Kids (fun (x : (Formula × Formula)) => rec x.1 x.2)).bind fun b => some b) else some false) : Option Bool).bind fun g => some g)))
def pZ : Nat → Formula → Formula → Option Bool
 | 0 => fun _ _ => none
 | n + 1 => yg (pZ n)
def qc (a0 : mZ) (c : Int) (a2 : List Formula) : Option (Formula × mZ) :=
 ((B6 c a2).bind fun i => ((pT i (fun (x : Formula) => sQ x (IntKind.i64.wrap (5 - c)))).bind fun d => (if d then some ((⟨(IntKind.i64.wrap (5 - c)), 0, (⟨zS, zS⟩ : lC), []⟩ : Formula), a0) else ((xl i).bind fun g => ((rI g (fun (x : (Formula × Formula)) => pZ mR x.1 x.2)).bind fun a => (((if (decide ((a.length : Int) > 64)) then some (⟨12⟩ : mZ) else some a0) : Option mZ).bind fun b => (if ((a.length : Int) == 1) then ((nD a 0).bind fun h => some (h, b)) else some ((⟨c, 0, (⟨zS, zS⟩ : lC), a⟩ : Formula), b))))))))
def oB (a0 : mZ) : List Formula → Int → (List Formula) → Option (Formula × mZ)
 | [], b, a => (if (decide (b ≤ 0)) then (AQ.bind fun l => some (l, a0)) else (if (decide (b > (a.length : Int))) then (Bm.bind fun m => some (m, a0)) else (if (b == (a.length : Int)) then ((qc a0 2 a).bind fun g => some (g.1, g.2)) else (if (b == 1) then ((qc a0 3 a).bind fun h => some (h.1, h.2)) else ((xl a).bind fun n => some ((⟨4, b, (⟨zS, zS⟩ : lC), n⟩ : Formula), a0))))))
 | d :: c, b, a => ((vJ d 2).bind fun j => (if j then (oB a0 c (IntKind.i64.wrap (b - 1)) a) else ((vJ d 3).bind fun k => (if (!k) then ((oI 72 a ([d])).bind fun i => (oB a0 c b i)) else (oB a0 c b a)))))
def sS (a0 : mZ) (a : Int) (a2 : List Formula) : Option (Formula × mZ) :=
 oB a0 a2 a ([])
def pI (rec : mZ → Formula → Option (Formula × mZ)) (k : Formula) : List Formula → (List Formula) → mZ → Option (Formula × mZ)
 | [], a, b => (if (k.Op == 4) then ((sS b k.K a).bind fun d => some (d.1, d.2)) else ((qc b k.Op a).bind fun g => some (g.1, g.2)))
 | j :: h, a, b => ((rec b j).bind fun c => ((oI 72 a ([c.1])).bind fun i => (pI rec k h i c.2)))
def uw (rec : mZ → Formula → Option (Formula × mZ)) (a0 : mZ) (a : Formula) : Option (Formula × mZ) :=
 (if (a.Op == 1) then some (a, a0) else pI rec a a.Kids ([]) a0)
def oZ : Nat → mZ → Formula → Option (Formula × mZ)
 | 0 => fun _ _ => none
 | n + 1 => uw (oZ n)
def zG (a0 : Formula) : Option (Formula × Int) :=
 ((rb a0).bind fun d => (if (!d) then some ((⟨0, 0, (⟨zS, zS⟩ : lC), []⟩ : Formula), 11) else ((oZ mR (⟨0⟩ : mZ) a0).bind fun a => (((if (a.2.e != 0) then some true else ((rb a.1).bind fun b => some (!b))) : Option Bool).bind fun c => (if c then some ((⟨0, 0, (⟨zS, zS⟩ : lC), []⟩ : Formula), 12) else some (a.1, 0))))))
def zN (a0 b : Formula) : Option (Formula × Int) :=
 ((zG (⟨2, 0, (⟨zS, zS⟩ : lC), [a0, b]⟩ : Formula)).bind fun a => some (a.1, a.2))
def vG  : List Formula → Int → Int → Int → lC → (List Formula) → Option (Int × Int × Int × lC × (List Formula))
 | [], c, d, g, h, b => some (c, d, g, h, b)
 | j :: i, c, d, g, h, b => (if (c != 0) then some (c, d, g, h, b) else ((zN (⟨d, g, h, b⟩ : Formula) j).bind fun a => (vG i a.2 ((a.1).Op) ((a.1).K) ((a.1).lC) ((a.1).Kids))))
def ya (a0 : List Formula) : Option (Formula × Int) :=
 ((nD a0 0).bind fun x6 => ((zG x6).bind fun a => ((rG (decide (0 ≤ 1) && decide (1 ≤ (a0.length : Int)))).bind fun _ => ((vG (a0.drop (Int.toNat 1)) a.2 ((a.1).Op) ((a.1).K) ((a.1).lC) ((a.1).Kids) : Option (Int × Int × Int × lC × (List Formula))).bind fun (b, d, g, h, c) => (if (b != 0) then some ((⟨0, 0, (⟨zS, zS⟩ : lC), []⟩ : Formula), b) else some ((⟨d, g, h, c⟩ : Formula), 0))))))
def wv  : List ny → (List Formula) → Option (Formula × Int)
 | [], a => ((ya a).bind fun b => some (b.1, b.2))
 | g :: c, a => ((oI 72 a ([g.lL])).bind fun d => (wv c d))
def xL (a0 : lF) (c : lB) : Option (Formula × Int) :=
 ((AH a0 c).bind fun a => (if (!a.2) then some ((⟨0, 0, (⟨zS, zS⟩ : lC), []⟩ : Formula), 42) else ((zT a0 c).bind fun b => wv b ([(a.1).lL]))))
def rB (rec : Formula → (lC → Option Bool) → Option Bool) (f1 : lC → Option Bool) (a0 : Formula) : List Formula → Int → Option Bool
 | [], a => (if (a0.Op == 2) then some (a == (a0.Kids.length : Int)) else (if (a0.Op == 3) then some (decide (a > 0)) else some (decide (a ≥ a0.K))))
 | d :: b, a => ((rec d f1).bind fun c => (if c then (rB rec f1 a0 b (IntKind.i64.wrap (a + 1))) else (rB rec f1 a0 b a)))
def xB (rec : Formula → (lC → Option Bool) → Option Bool) (a0 : Formula) (f1 : lC → Option Bool) : Option Bool :=
 (if (a0.Op == 1) then ((f1 a0.lC).bind fun a => some a) else rB rec f1 a0 a0.Kids 0)
def rW : Nat → Formula → (lC → Option Bool) → Option Bool
 | 0 => fun _ _ => none
 | n + 1 => xB (rW n)
def uu (a0 : Formula) (f1 : lC → Option Bool) : Option Bool :=
 ((rb a0).bind fun c => (((if c then ((rW mR a0 f1).bind fun a => some a) else some false) : Option Bool).bind fun b => some b))
def uZ (a0 : lC) (g : List (lC × (List (ByteArray × Bool)))) (a : List lB) (d : List (lC × (List lB))) (b : List (ByteArray × (List lB))) (c : List lY) (h : Int) (c1 : ByteArray) : Option Bool :=
 ((uq g a d b c h a0 c1).bind fun i => some i)
def tH (a0 : lF) (c : ((List (lC × (List (ByteArray × Bool)))) × (List lB) × (List (lC × (List lB))) × (List (ByteArray × (List lB))) × (List lY) × Int × ByteArray)) : List mG → (List lB) → Option (List lB)
 | [], a => ((oW a).bind fun i => some i)
 | d :: b, a => ((xL a0 d.Signed.lB).bind fun r417 => (((if (r417.2 == 0) then ((uu r417.1 (fun (x : lC) => uZ x c.1 c.2.1 c.2.2.1 c.2.2.2.1 c.2.2.2.2.1 c.2.2.2.2.2.1 c.2.2.2.2.2.2)).bind fun h => some h) else some false) : Option Bool).bind fun j => (if j then ((oI 136 a ([d.Signed.lB])).bind fun g => (tH a0 c b g)) else (tH a0 c b a))))
def tz (a0 : lF) (a : List lB) (a2 : ByteArray) : Option (List lB) :=
 ((AR a a2).bind fun b => tH a0 b a0.lX ([]))
def Ec (a0 j : lF) : Nat → (List lB) → (List lB) → Int → Option ((List lB) × (List lB) × Int)
 | 0, _, _, _ => none
 | h + 1, a, b, g => ((tz a0 b j.Name).bind fun c => ((tz j a a0.Name).bind fun d => (((if ((c.length : Int) == (a.length : Int)) then some ((d.length : Int) == (b.length : Int)) else some false) : Option Bool).bind fun i => (if i then some (a, b, g) else (Ec a0 j h c d (IntKind.i64.wrap (g + 1)))))))
def MF (a0 a : lF) : Option ((List lB) × (List lB) × Int) :=
 Ec a0 a mR ([]) ([]) 0
def uo (rec : (List Formula) → Option Int) : List Formula → Int → Option Int
 | [], b => some b
 | a :: d, b => ((rec a.Kids).bind fun c => (uo rec d (IntKind.i64.wrap (b + (IntKind.i64.wrap ((IntKind.i64.wrap (1 + (IntKind.i64.wrap (Int.tdiv (IntKind.i64.wrap ((a.lC.lI.size : Int) + (a.lC.lM.size : Int))) 16)))) + c))))))
def yy (rec : (List Formula) → Option Int) (a0 : List Formula) : Option Int :=
 uo rec a0 0
def rF : Nat → (List Formula) → Option Int
 | 0 => fun _ => none
 | n + 1 => yy (rF n)
def ur  : List ny → Int → Option Int
 | [], b => some b
 | a :: c, b => ((rF mR ([a.lL])).bind fun d => ((sv a.nn).bind fun g => (ur c (IntKind.i64.wrap (b + (IntKind.i64.wrap ((IntKind.i64.wrap ((IntKind.i64.wrap ((a.lC.lI.size : Int) + (a.lC.lM.size : Int))) + (IntKind.i64.wrap (20 * d)))) + g)))))))
def uk (a0 : lF) : List mG → Int → Option Int
 | [], a => ((ur a0.ml a : Option Int).bind fun c => some c)
 | b :: d, a => ((((Ac ([]) ([b.Signed])).bind fun i => some (i, ([b.lL]))) : Option (Int × (List Formula))).bind fun (j, g) => ((rF mR g).bind fun h => (uk a0 d (IntKind.i64.wrap (a + (IntKind.i64.wrap (j + (IntKind.i64.wrap (20 * h)))))))))
def Ab (a0 : lF) : Option Int :=
 uk a0 a0.lX (a0.Name.size : Int)
def KA (a0 c : lF) : Option ((List lB) × (List (lC × (List (ByteArray × Bool)))) × (List lB) × (List (lC × (List lB))) × (List (ByteArray × (List lB))) × (List lY) × Int × ByteArray) :=
 ((MF a0 c).bind fun b => ((xA b.2.1).bind fun a => some (b.2.1, a.1, a.2.1, a.2.2.1, a.2.2.2.1, a.2.2.2.2.1, a.2.2.2.2.2, c.Name)))
def H4 (a0 : lC) (g : List (lC × (List (ByteArray × Bool)))) (a : List lB) (d : List (lC × (List lB))) (b : List (ByteArray × (List lB))) (c : List lY) (i : Int) (h : ByteArray) (j : List mG) (k : List ny) : Option Bool :=
 ((uq g a d b c i a0 h).bind fun l => some l)
def Jc (a0 b : lF) (a2 : Formula) : Option Bool :=
 ((KA a0 b).bind fun a => ((uu a2 (fun (x : lC) => H4 x a.2.1 a.2.2.1 a.2.2.2.1 a.2.2.2.2.1 a.2.2.2.2.2.1 a.2.2.2.2.2.2.1 a.2.2.2.2.2.2.2 b.lX b.ml)).bind fun c => some c))
def sX (a0 : List ny) (f1 : ny → Option Bool) : Option Bool :=
 ((qV a0 f1).bind fun a => some (decide (a ≥ 0)))
def ym (a0 : ny) : Option Bool :=
 some (decide ((a0.nn.length : Int) > 32))
def AW (a0 : lF) : Option Bool :=
 (((if (decide ((a0.lX.length : Int) > 256)) then some true else some (decide ((a0.ml.length : Int) > 8))) : Option Bool).bind fun x8 => (((if x8 then some true else ((sX a0.ml (fun (x : ny) => ym x)).bind fun a => some a)) : Option Bool).bind fun b => some b))
def sb (d : List lB) : List lB → Nat → Option Bool
 | [], _ => some true
 | c :: b, i90 => ((nD d (i90 : Int)).bind fun a => (if (!(mC c a)) then some false else (sb d b (i90 + 1))))
def qX (a0 a : List lB) : Option Bool :=
 (if ((a0.length : Int) != (a.length : Int)) then some false else sb a a0 0)
def xi (a0 : List lB) : Option Bool :=
 ((oW a0).bind fun b => ((qX b a0).bind fun a => some a))
def ui  : List mG → (List lB) → Option Bool
 | [], a => ((xi a).bind fun h => some h)
 | b :: c, a => (((if ((b.Signed.Tag.length : Int) != 8) then some true else ((rb b.lL).bind fun g => some (!g))) : Option Bool).bind fun i => (if i then some false else ((oI 136 a ([b.Signed.lB])).bind fun d => (ui c d))))
def B5 (a0 : lF) : Option Bool :=
 ui a0.lX ([])
def ve (a0 : List ny) : List ny → Nat → Option Bool
 | [], _ => some true
 | a :: c, b => ((qQ a.lC).bind fun d => (((if (!d) then some true else ((rb a.lL).bind fun i => some (!i))) : Option Bool).bind fun j => (((if j then some true else ((xi a.nn).bind fun h => some (!h))) : Option Bool).bind fun k => (((if k then some true else (((if (decide ((b : Int) > 0)) then ((nD a0 (IntKind.i64.wrap ((b : Int) - 1))).bind fun n => ((pG n.lC a.lC).bind fun g => some (decide (g ≥ 0)))) else some false) : Option Bool).bind fun m => some m)) : Option Bool).bind fun l => (if l then some false else (ve a0 c (b + 1)))))))
def CF (a0 : List ny) : Option Bool :=
 ve a0 a0 0
def ri (a0 : List mG) (f1 : mG → Option Bool) : Option Bool :=
 ((qS a0 f1).bind fun a => some (decide (a ≥ 0)))
def wY (a0 : mG) (c : ByteArray) (a : List mG) (b : List ny) : Option Bool :=
 ((xL (⟨c, a, b⟩ : lF) a0.Signed.lB).bind fun d => some (d.2 != 0))
def yP (a0 : lF) : Option Bool :=
 ((ri a0.lX (fun (x : mG) => wY x a0.Name a0.lX a0.ml)).bind fun a => some (!a))
def xS (a0 : lF) : Option Int :=
 ((qP a0.Name).bind fun i => (if (!i) then some 30 else ((AW a0).bind fun a => (if a then some 12 else ((B5 a0).bind fun b => (((if (!b) then some true else ((CF a0.ml).bind fun d => some (!d))) : Option Bool).bind fun g => (((if g then some true else ((yP a0).bind fun c => some (!c))) : Option Bool).bind fun h => (if h then some 11 else some 0))))))))
def yD (a0 : lF) (g : ByteArray) (a2 : Int) : Option (mW × Int) :=
 ((xS a0).bind fun c => (((if (c != 0) then some c else ((qP g).bind fun b => (if (!b) then some 30 else (((if (decide (a2 < 0)) then some true else some (decide (a2 > 256))) : Option Bool).bind fun d => (if d then some 2 else some c))))) : Option Int).bind fun a => (if (a != 0) then some ((⟨(⟨zS, [], []⟩ : lF), zS, 0, [], [], [], []⟩ : mW), a) else some ((⟨a0, g, a2, [], [], [], []⟩ : mW), 0))))
def yS (a0 : lB) (d : ByteArray) (b : List mG) (c : List ny) (j : ByteArray) (k : Int) (g a : List lB) (h i : List lC) : Option Bool :=
 ((rL a a0).bind fun l => some l)
def BH (a0 : mW) : Option (List lB) :=
 ((tz a0.lF a0.lQ a0.na).bind fun a => ((pq a (fun (x : lB) => yS x a0.lF.Name a0.lF.lX a0.lF.ml a0.na a0.Room a0.lQ a0.Shown a0.mg a0.mj)).bind fun b => some b))
def vM (c : lB) : List mG → Option (Signed × Bool)
 | [] => some ((⟨(⟨0, (⟨zS, zS⟩ : lC), zS, (⟨zS, zS⟩ : lC), (⟨zS, zS⟩ : lC), zS⟩ : lB), []⟩ : Signed), false)
 | a :: b => (if (mC a.Signed.lB c) then some (a.Signed, true) else (vM c b))
def zH (a0 : lF) (a : lB) : Option (Signed × Bool) :=
 vM a a0.lX
def BR (a0 : mW) : Option ((List (lC × (List (ByteArray × Bool)))) × (List lB) × (List (lC × (List lB))) × (List (ByteArray × (List lB))) × (List lY) × Int × ByteArray × ByteArray × Int) :=
 ((xA a0.lQ).bind fun a => some (a.1, a.2.1, a.2.2.1, a.2.2.2.1, a.2.2.2.2.1, a.2.2.2.2.2, a0.lF.Name, a0.na, a0.Room))
def uS (a0 : lC) (h : List (lC × (List (ByteArray × Bool)))) (a : List lB) (d : List (lC × (List lB))) (b : List (ByteArray × (List lB))) (c : List lY) (m : Int) (j : ByteArray) (g : List mG) (i : List ny) (k : ByteArray) (r : Int) (l q : List lB) (n o : List lC) : Option Bool :=
 ((uq h a d b c m a0 k).bind fun s => some s)
def zd (a0 : mW) (g : lB) : Option Bool :=
 ((xL a0.lF g).bind fun b => (((if (b.2 == 0) then ((BR a0).bind fun a => ((uu b.1 (fun (x : lC) => uS x a.1 a.2.1 a.2.2.1 a.2.2.2.1 a.2.2.2.2.1 a.2.2.2.2.2.1 a.2.2.2.2.2.2.1 a0.lF.lX a0.lF.ml a.2.2.2.2.2.2.2.1 a.2.2.2.2.2.2.2.2 a0.lQ a0.Shown a0.mg a0.mj)).bind fun c => some c)) else some false) : Option Bool).bind fun d => some d))
def tR (a0 : mW) : List lB → Option (Int ⊕ Unit)
 | [] => some (Sum.inr ())
 | c :: a => ((zd a0 c).bind fun b => (if (!b) then some (Sum.inl 44) else (tR a0 a)))
def tT (a0 : mW) (g : List lB) : List lB → Option Int
 | [] => ((tR a0 g : Option (Int ⊕ Unit)).bind fun s => match s with | .inl b => some b | .inr _ => some 0)
 | d :: a => ((zH a0.lF d).bind fun c => (if (!c.2) then some 42 else (tT a0 g a)))
def Bj (a0 : mW) (a : List lB) : Option Int :=
 (if (decide ((a.length : Int) > 8)) then some 12 else tT a0 a a)
def wi (a0 : List Int) : Option (List Int) :=
 ((oI 1 ([]) a0).bind fun a => some a)
def uA (b : Int) : Option (List lB) :=
 (if (decide (b < 0)) then none else (((if (decide ((IntKind.i64.wrap (b - (IntKind.i64.wrap (0 - 0)))) > 0)) then ((FE 136 (⟨0, (⟨zS, zS⟩ : lC), zS, (⟨zS, zS⟩ : lC), (⟨zS, zS⟩ : lC), zS⟩ : lB) (IntKind.i64.wrap (b - (IntKind.i64.wrap (0 - 0))))).bind fun a => ((rG (decide (0 ≤ 0) && decide (0 ≤ (a.length : Int)))).bind fun _ => some (a.take (Int.toNat 0)))) else some ([])) : Option (List lB)).bind fun c => some c))
def qv  : List (List lB) → (List lB) → Option (List lB)
 | [], a => some a
 | d :: b, a => ((oI 136 a d).bind fun c => (qv b c))
def qF (a0 : List (List lB)) : List (List lB) → Int → Option (List lB)
 | [], a => ((uA a).bind fun g => ((qv a0 g : Option (List lB)).bind fun b => some b))
 | c :: d, a => (if (decide ((IntKind.i64.wrap (a + (c.length : Int))) < 0)) then none else (qF a0 d (IntKind.i64.wrap (a + (c.length : Int)))))
def tE (a0 : List (List lB)) : Option (List lB) :=
 qF a0 a0 0
def rY (a0 : mW) (q : List lB) : List lB → (List Signed) → Option ((List Signed) × Int × mW)
 | [], a => ((tE ([a0.Shown, q])).bind fun h => ((oW h).bind fun i => some (a, 0, (⟨(⟨a0.lF.Name, a0.lF.lX, a0.lF.ml⟩ : lF), a0.na, a0.Room, a0.lQ, i, a0.mg, a0.mj⟩ : mW))))
 | l :: k, a => ((((zH a0.lF l).bind fun b => some (((b.1).lB), ((b.1).Tag), b.2, (⟨0, (⟨zS, zS⟩ : lC), zS, (⟨zS, zS⟩ : lC), (⟨zS, zS⟩ : lC), zS⟩ : lB), ([]))) : Option (lB × (List Int) × Bool × lB × (List Int))).bind fun (j, c, n, o, m) => ((wi c).bind fun g => ((oI 160 a ([(⟨j, g⟩ : Signed)])).bind fun d => (rY a0 q k d))))
def xI (a0 : mW) (a : List lB) : Option ((List Signed) × Int × mW) :=
 ((Bj a0 a).bind fun b => (if (b != 0) then some ([], b, a0) else ((oW a).bind fun c => rY a0 a c ([]))))
def uv  : List lC → Int → Option Int
 | [], a => some a
 | b :: c, a => (uv c (IntKind.i64.wrap (a + (IntKind.i64.wrap ((IntKind.i64.wrap (5 + (b.lI.size : Int))) + (b.lM.size : Int))))))
def zU (a0 : mW) : Option Int :=
 ((Ab a0.lF).bind fun c => ((sv a0.lQ).bind fun d => ((sv a0.Shown).bind fun g => ((oI 32 ([]) a0.mg).bind fun a => ((oI 32 a a0.mj).bind fun b => uv b (IntKind.i64.wrap ((IntKind.i64.wrap ((IntKind.i64.wrap (c + (a0.na.size : Int))) + d)) + g)))))))
def ub (a0 : List lC) : Option (List lC) :=
 ((oI 32 ([]) a0).bind fun a => some a)
def qO (f1 : lC → Option Bool) : List lC → Nat → Option Int
 | [], _ => some (-1)
 | c :: a, i35 => ((f1 c).bind fun b => (if b then some (i35 : Int) else (qO f1 a (i35 + 1))))
def wo (a0 : List lC) (f1 : lC → Option Bool) : Option Int :=
 qO f1 a0 0
def pw (f1 : lC → Option Bool) : Nat → (List lC) → Int → Int → Option (List lC)
 | 0, _, _, _ => none
 | n321 + 1, b, a, c => (if (decide (c < (b.length : Int))) then ((((nD b c).bind fun d => ((f1 d).bind fun h => (if (!h) then ((nD b a).bind fun j => some ((b.set (Int.toNat a) d), (IntKind.i64.wrap (a + 1)))) else some (b, a)))) : Option ((List lC) × Int)).bind fun (g, i) => (pw f1 n321 g i (IntKind.i64.wrap (c + 1)))) else ((rG (decide (0 ≤ a) && decide (a ≤ (b.length : Int)))).bind fun _ => ((rG (decide (0 ≤ a) && decide (a ≤ ((pL b (Int.toNat a) (⟨zS, zS⟩ : lC)).length : Int)))).bind fun _ => some ((pL b (Int.toNat a) (⟨zS, zS⟩ : lC)).take (Int.toNat a)))))
def rj (a0 : List lC) (f1 : lC → Option Bool) : Option (List lC) :=
 ((wo a0 f1).bind fun a => (if (a == (-1)) then some a0 else pw f1 mR a0 a (IntKind.i64.wrap (a + 1))))
def zW (a0 : lC) : Option Bool :=
 ((qQ a0).bind fun a => some (!a))
def pY (b : Int) : Nat → (List lC) → Int → Int → Option ((List lC) × Int)
 | 0, _, _, _ => none
 | h + 1, a, c, d => (if (decide (d < ((a.length - (Int.toNat b) : Nat) : Int))) then ((((nD (a.drop (Int.toNat b)) d).bind fun j => ((nD (a.drop (Int.toNat b)) (IntKind.i64.wrap (d - 1))).bind fun k => (if (!(lZ j k)) then ((nD (a.drop (Int.toNat b)) d).bind fun l => ((nD a c).bind fun m => some ((a.set (Int.toNat c) l), (IntKind.i64.wrap (c + 1))))) else some (a, c)))) : Option ((List lC) × Int)).bind fun (g, i) => (pY b h g i (IntKind.i64.wrap (d + 1)))) else some (a, c))
def qf (a0 : List lC) : Nat → Int → Option (List lC)
 | 0, _ => none
 | d + 1, a => (if (decide (a < (a0.length : Int))) then ((nD a0 a).bind fun g => ((nD a0 (IntKind.i64.wrap (a - 1))).bind fun h => (if (lZ g h) then ((rG (decide (0 ≤ a) && decide (a ≤ (a0.length : Int)))).bind fun _ => ((pY a mR a0 a 1 : Option ((List lC) × Int)).bind fun (c, b) => ((rG (decide (0 ≤ b) && decide (b ≤ (c.length : Int)))).bind fun _ => ((rG (decide (0 ≤ b) && decide (b ≤ ((pL c (Int.toNat b) (⟨zS, zS⟩ : lC)).length : Int)))).bind fun _ => some ((pL c (Int.toNat b) (⟨zS, zS⟩ : lC)).take (Int.toNat b)))))) else (qf a0 d (IntKind.i64.wrap (a + 1)))))) else some a0)
def vd (a0 : List lC) : Option (List lC) :=
 (if (decide ((a0.length : Int) < 2)) then some a0 else qf a0 mR 1)
def pj (a0 : List lC) : Option (List lC) :=
 ((ub a0).bind fun d => ((rj d (fun (x : lC) => zW x)).bind fun a => ((zX (fun (x : (lC × lC)) => pG x.1 x.2) a).bind fun b => ((vd b).bind fun c => some c))))
def qU (d : List lC) : List lC → Nat → Option Bool
 | [], _ => some true
 | c :: b, i90 => ((nD d (i90 : Int)).bind fun a => (if (!(lZ c a)) then some false else (qU d b (i90 + 1))))
def pU (a0 a : List lC) : Option Bool :=
 (if ((a0.length : Int) != (a.length : Int)) then some false else qU a a0 0)
def BB (a0 : mW) : Option Bool :=
 ((oW a0.lQ).bind fun a => ((qX a a0.lQ).bind fun b => (((if b then ((oW a0.Shown).bind fun i => ((qX i a0.Shown).bind fun j => some j)) else some false) : Option Bool).bind fun k => (((if k then ((pj a0.mg).bind fun g => ((pU g a0.mg).bind fun h => some h)) else some false) : Option Bool).bind fun l => (((if l then ((pj a0.mj).bind fun c => ((pU c a0.mj).bind fun d => some d)) else some false) : Option Bool).bind fun m => some m)))))
def sx (a0 : List lB) (f1 : lB → Option Bool) : Option Bool :=
 ((rM a0 f1).bind fun a => some (decide (a ≥ 0)))
def wM (a0 : lB) (c : ByteArray) (a : List mG) (b : List ny) (j : ByteArray) (k : Int) (d i : List lB) (g h : List lC) : Option Bool :=
 ((zH (⟨c, a, b⟩ : lF) a0).bind fun l => some (!l.2))
def yK (a0 : mW) : Option Bool :=
 ((xS a0.lF).bind fun a => (((if (a != 0) then some true else ((qP a0.na).bind fun d => some (!d))) : Option Bool).bind fun g => (((if g then some true else some (decide (a0.Room < 0))) : Option Bool).bind fun h => (((if h then some true else some (decide (a0.Room > 256))) : Option Bool).bind fun i => (((if i then some true else ((BB a0).bind fun c => some (!c))) : Option Bool).bind fun j => (if j then some false else ((sx a0.Shown (fun (x : lB) => wM x a0.lF.Name a0.lF.lX a0.lF.ml a0.na a0.Room a0.lQ a0.Shown a0.mg a0.mj)).bind fun b => some (!b))))))))
def ET (a0 : zA) : Option zA :=
 (((if (a0.Kind == 1) then some (a0.uM, 0, a0.Name, ([]), ([])) else (if (a0.Kind == 2) then some (0, 0, zS, a0.qo, a0.pR) else (if (a0.Kind == 5) then some (0, a0.E, zS, ([]), ([])) else some (0, 0, zS, ([]), ([]))))) : Option (Int × Int × ByteArray × (List lC) × (List Signed))).bind fun (c, d, g, a, b) => some (⟨a0.Kind, c, d, g, a, b⟩ : zA))
def nk (g : List Signed) (f2 : (Signed × Signed) → Option Bool) : List Signed → Nat → Option Bool
 | [], _ => some true
 | d :: c, i95 => ((nD g (i95 : Int)).bind fun b => ((f2 (d, b)).bind fun a => (if (!a) then some false else (nk g f2 c (i95 + 1)))))
def ob (a0 a : List Signed) (f2 : (Signed × Signed) → Option Bool) : Option Bool :=
 (if ((a0.length : Int) != (a.length : Int)) then some false else nk a f2 a0 0)
def vP (a0 c : Signed) : Option Bool :=
 (((if (mC a0.lB c.lB) then ((B7 a0.Tag c.Tag).bind fun a => some a) else some false) : Option Bool).bind fun b => some b)
def Cv (a0 a : zA) : Option Bool :=
 (((if (a0.Kind == a.Kind) then some (a0.uM == a.uM) else some false) : Option Bool).bind fun d => (((if d then some (a0.E == a.E) else some false) : Option Bool).bind fun g => (((if g then some (nq a0.Name a.Name) else some false) : Option Bool).bind fun h => (((if h then ((pU a0.qo a.qo).bind fun c => some c) else some false) : Option Bool).bind fun i => (((if i then ((ob a0.pR a.pR (fun (x : (Signed × Signed)) => vP x.1 x.2)).bind fun b => some b) else some false) : Option Bool).bind fun j => some j)))))
def Bx (a0 : List lC) : Option Bool :=
 (((if (decide ((a0.length : Int) ≤ 16)) then ((pj a0).bind fun a => ((pU a a0).bind fun b => some b)) else some false) : Option Bool).bind fun c => some c)
def vE (a0 : List Signed) : List Signed → Nat → Option Bool
 | [], _ => some (decide ((a0.length : Int) ≤ 8))
 | b :: c, a => ((uR b.lB).bind fun d => (((if (!d) then some true else some ((b.Tag.length : Int) != 8)) : Option Bool).bind fun h => (((if h then some true else (((if (decide ((a : Int) > 0)) then ((nD a0 (IntKind.i64.wrap ((a : Int) - 1))).bind fun k => ((sN k.lB b.lB).bind fun g => some (decide (g ≥ 0)))) else some false) : Option Bool).bind fun j => some j)) : Option Bool).bind fun i => (if i then some false else (vE a0 c (a + 1))))))
def D9 (a0 : List Signed) : Option Bool :=
 vE a0 a0 0
def Bw (a0 : zA) : Option Bool :=
 ((ET a0).bind fun g => ((Cv g a0).bind fun h => (if (!h) then some false else (if (a0.Kind == 1) then ((qP a0.Name).bind fun i => (((if i then (((if (a0.uM == 1) then some true else some (a0.uM == 2)) : Option Bool).bind fun l => some l) else some false) : Option Bool).bind fun k => some k)) else (if (a0.Kind == 2) then ((Bx a0.qo).bind fun j => (((if j then ((D9 a0.pR).bind fun a => some a) else some false) : Option Bool).bind fun b => some b)) else (if (a0.Kind == 5) then (((if (decide (a0.E ≥ 1)) then some (decide (a0.E ≤ 99)) else some false) : Option Bool).bind fun c => some c) else (((if (a0.Kind == 3) then some true else some (a0.Kind == 4)) : Option Bool).bind fun d => some d)))))))
def yl (d : List lC) : List lC → Nat → Option Bool
 | [], _ => some true
 | c :: b, i90 => ((nD d (i90 : Int)).bind fun a => (if (!(lZ c a)) then some false else (yl d b (i90 + 1))))
def yh (d : List lB) (a : List (lC × Bool)) (b : List (ByteArray × Bool)) (c : List (lB × Bool)) (h : lB) : Option Bool :=
 (((if (ua lZ a h.Head false) then some true else some (ua nq b h.Head.lM false)) : Option Bool).bind fun g => some g)
def qy (d : lB) (b : List (ByteArray × Bool)) (a : List (lB × Bool)) : List lC → (List (lC × Bool)) → Option ((List (lC × Bool)) × (List (ByteArray × Bool)) × (List (lB × Bool)))
 | [], c => (if (d.Kind == 3) then some (c, (oz nq b d.mK true), (oz mC a d true)) else some (c, b, (oz mC a d true)))
 | h :: g, c => (qy d b a g (oz lZ c h true))
def vx (d : List lB) (b : List (lC × Bool)) (c : List (ByteArray × Bool)) (a : List (lB × Bool)) (g : lB) : Option ((List (lC × Bool)) × (List (ByteArray × Bool)) × (List (lB × Bool))) :=
 ((yB g).bind fun h => ((rG (decide (0 ≤ 1) && decide (1 ≤ (h.length : Int)))).bind fun _ => qy g c a (h.drop (Int.toNat 1)) b))
def pE (b : List lB) : List lB → (List (lC × Bool)) → (List (ByteArray × Bool)) → (List (lB × Bool)) → Option ((List (lC × Bool)) × (List (ByteArray × Bool)) × (List (lB × Bool)))
 | [], c, d, a => some (c, d, a)
 | h :: i, c, d, a => (((if (!(ua mC a h false)) then ((yh b c d a h).bind fun j => some j) else some false) : Option Bool).bind fun k => (if k then ((vx b c d a h).bind fun g => (pE b i g.1 g.2.1 g.2.2)) else (pE b i c d a)))
def qH (a : List lB) : Nat → Int → (List (lC × Bool)) → (List (ByteArray × Bool)) → (List (lB × Bool)) → Option ((List (lC × Bool)) × (List (ByteArray × Bool)) × (List (lB × Bool)))
 | 0, _, _, _, _ => none
 | j + 1, k, c, d, b => (if (decide (k < (b.length : Int))) then ((pE a a c d b : Option ((List (lC × Bool)) × (List (ByteArray × Bool)) × (List (lB × Bool)))).bind fun (g, h, i) => (qH a j (b.length : Int) g h i)) else some (c, d, b))
def pB (c : List lB) (b : List (ByteArray × Bool)) (a : List (lB × Bool)) : List lC → (List (lC × Bool)) → Option (Int × (List (lC × Bool)) × (List (ByteArray × Bool)) × (List (lB × Bool)))
 | [], i => ((qH c mR (-1) i b a : Option ((List (lC × Bool)) × (List (ByteArray × Bool)) × (List (lB × Bool)))).bind fun (g, h, d) => some ((IntKind.i64.wrap ((d.length : Int) - (a.length : Int))), g, h, d))
 | k :: j, i => (pB c b a j (oz lZ i k true))
def tK (d : List lB) (b : List (lC × Bool)) (c : List (ByteArray × Bool)) (a : List (lB × Bool)) (g : List lC) : Option (Int × (List (lC × Bool)) × (List (ByteArray × Bool)) × (List (lB × Bool))) :=
 ((pj g).bind fun h => pB d c a h b)
def BE (a0 : List lB) (c : List lC) : Option ((List lB) × (List (lC × Bool)) × (List (ByteArray × Bool)) × (List (lB × Bool))) :=
 ((oW a0).bind fun b => ((tK b ([]) ([]) ([]) c).bind fun a => some (b, a.2.1, a.2.2.1, a.2.2.2)))
def sP (a0 : lB) (d : List lB) (b : List (lC × Bool)) (c : List (ByteArray × Bool)) (a : List (lB × Bool)) : Option Bool :=
 some (!(ua mC a a0 false))
def uF (c : List lB) (b : List (lC × Bool)) (d : List (ByteArray × Bool)) (a : List (lB × Bool)) : Option (List lB) :=
 ((rX c).bind fun h => ((pq h (fun (x : lB) => sP x c b d a)).bind fun g => some g))
def wL (a0 : ny) (a : lC → Option Bool) : Option Bool :=
 ((uu a0.lL a).bind fun b => some b)
def wK (a0 : mW) : Option (List ny) :=
 ((BR a0).bind fun a => ((qu a0.lF.ml).bind fun b => ((oP b (fun (x : ny) => wL x (fun (x : lC) => uS x a.1 a.2.1 a.2.2.1 a.2.2.2.1 a.2.2.2.2.1 a.2.2.2.2.2.1 a.2.2.2.2.2.2.1 a0.lF.lX a0.lF.ml a.2.2.2.2.2.2.2.1 a.2.2.2.2.2.2.2.2 a0.lQ a0.Shown a0.mg a0.mj))).bind fun c => some c)))
def wN (a0 : ny) (a : lB) : Option Bool :=
 ((rL a0.nn a).bind fun b => some (!b))
def uX (a0 : List ny) (b : lB) : Option (List ny) :=
 ((qu a0).bind fun c => ((oP c (fun (x : ny) => wN x b)).bind fun a => some a))
def ul  : List ny → (List lB) → Option (List lB)
 | [], a => some a
 | d :: b, a => ((oI 136 a d.nn).bind fun c => (ul b c))
def sF (c : List ny) : List mG → (List lB) → Option (List lB)
 | [], a => ((ul c a : Option (List lB)).bind fun h => ((oW h).bind fun j => some j))
 | d :: b, a => ((uX c d.Signed.lB).bind fun i => (if ((i.length : Int) == 0) then ((oI 136 a ([d.Signed.lB])).bind fun g => (sF c b g)) else (sF c b a)))
def vi (a0 : mW) : Option (List lB) :=
 ((wK a0).bind fun a => sF a a0.lF.lX ([]))
def pJ (a0 : mW) : Option (List lB) :=
 ((vi a0).bind fun c => ((BE c a0.mg).bind fun a => ((uF a.1 a.2.1 a.2.2.1 a.2.2.2).bind fun b => some b)))
def sJ (rec : Formula → Option (List lC)) : List Formula → (List lC) → Option (List lC)
 | [], a => some a
 | g :: b, a => ((rec g).bind fun d => ((oI 32 a d).bind fun c => (sJ rec b c)))
def xx (rec : Formula → Option (List lC)) (a0 : Formula) : Option (List lC) :=
 (if (a0.Op == 1) then some [a0.lC] else sJ rec a0.Kids ([]))
def tp : Nat → Formula → Option (List lC)
 | 0 => fun _ => none
 | n + 1 => xx (tp n)
def uY (a0 : Formula) : Option (List lC) :=
 ((tp mR a0).bind fun b => ((pj b).bind fun a => some a))
def rS (m : List ny) (a2 : lB) (a0 : mW) : List ny → (List lC) → Option (List lC)
 | [], a => ((uX m a2).bind fun h => (((if (decide ((h.length : Int) > 0)) then some true else ((zd a0 a2).bind fun j => some j)) : Option Bool).bind fun l => (if l then some a else ((xL a0.lF a2).bind fun b => (if (b.2 != 0) then some [] else ((uY b.1).bind fun i => some i))))))
 | k :: c, a => ((uY k.lL).bind fun g => ((oI 32 a g).bind fun d => (rS m a2 a0 c d)))
def vI (a0 : mW) (b : List ny) (a2 : lB) : Option (List lC) :=
 ((uX b a2).bind fun a => rS b a2 a0 a ([]))
def pz (a0 : mW) (d : List ny) : List lB → (List lC) → Option (List lC)
 | [], a => ((pj a).bind fun h => some h)
 | i :: b, a => ((vI a0 d i).bind fun g => ((oI 32 a g).bind fun c => (pz a0 d b c)))
def rH (a0 : mW) : Option (List lC) :=
 ((wK a0).bind fun a => ((pJ a0).bind fun b => pz a0 a b ([])))
def uG (b : Int) : Option (List lC) :=
 (if (decide (b < 0)) then none else (((if (decide ((IntKind.i64.wrap (b - (IntKind.i64.wrap (0 - 0)))) > 0)) then ((FE 32 (⟨zS, zS⟩ : lC) (IntKind.i64.wrap (b - (IntKind.i64.wrap (0 - 0))))).bind fun a => ((rG (decide (0 ≤ 0) && decide (0 ≤ (a.length : Int)))).bind fun _ => some (a.take (Int.toNat 0)))) else some ([])) : Option (List lC)).bind fun c => some c))
def qx  : List (List lC) → (List lC) → Option (List lC)
 | [], a => some a
 | d :: b, a => ((oI 32 a d).bind fun c => (qx b c))
def qE (a0 : List (List lC)) : List (List lC) → Int → Option (List lC)
 | [], a => ((uG a).bind fun g => ((qx a0 g : Option (List lC)).bind fun b => some b))
 | c :: d, a => (if (decide ((IntKind.i64.wrap (a + (c.length : Int))) < 0)) then none else (qE a0 d (IntKind.i64.wrap (a + (c.length : Int)))))
def rK (a0 : List (List lC)) : Option (List lC) :=
 qE a0 a0 0
def se (c : lC) : List lC → Nat → Option Int
 | [], _ => some (-1)
 | b :: a, i46 => (if (lZ c b) then some (i46 : Int) else (se c a (i46 + 1)))
def ye (a0 : List lC) (a : lC) : Option Int :=
 se a a0 0
def wP (a0 : List lC) (a : lC) : Option Bool :=
 ((ye a0 a).bind fun b => some (decide (b ≥ 0)))
def Ct (a0 : List lC) (a : lC) : Option Bool :=
 ((wP a0 a).bind fun b => some b)
def vS (a0 : lC) (d : ByteArray) (b : List mG) (c : List ny) (j : ByteArray) (k : Int) (g i : List lB) (h a : List lC) : Option Bool :=
 ((Ct a a0).bind fun l => some l)
def sw (a0 : mW) (g : List lC) : Option (List lC) :=
 ((rH a0).bind fun b => ((rK ([b, g])).bind fun c => ((pj c).bind fun d => ((rj d (fun (x : lC) => vS x a0.lF.Name a0.lF.lX a0.lF.ml a0.na a0.Room a0.lQ a0.Shown a0.mg a0.mj)).bind fun a => ((rG (decide (0 ≤ (if 16 < (a.length : Int) then 16 else (a.length : Int))) && decide ((if 16 < (a.length : Int) then 16 else (a.length : Int)) ≤ (a.length : Int)))).bind fun _ => some (a.take (Int.toNat (if 16 < (a.length : Int) then 16 else (a.length : Int)))))))))
def xa (a0 : lB) (a : List lB) : Option Bool :=
 ((rL a a0).bind fun b => some (!b))
def sI (a0 : mW) : Option (List lB) :=
 ((pJ a0).bind fun b => ((BH a0).bind fun c => ((pq c (fun (x : lB) => xa x b)).bind fun a => ((rG (decide (0 ≤ (if 8 < (a.length : Int) then 8 else (a.length : Int))) && decide ((if 8 < (a.length : Int) then 8 else (a.length : Int)) ≤ (a.length : Int)))).bind fun _ => some (a.take (Int.toNat (if 8 < (a.length : Int) then 8 else (a.length : Int))))))))
def vj (a0 : mW) (c : List lC) : Option Bool :=
 ((sw a0 c).bind fun a => ((sI a0).bind fun b => some ((IntKind.i64.wrap ((a.length : Int) + (b.length : Int))) == 0)))
def wJ (a0 : mW) (b : List lC) : Option mW :=
 ((rK ([a0.mg, b])).bind fun c => ((pj c).bind fun a => some (⟨a0.lF, a0.na, a0.Room, a0.lQ, a0.Shown, a, a0.mj⟩ : mW)))
def tk (a0 : mW) (h : List lC) : Option (zA × Int × mW) :=
 ((sw a0 h).bind fun g => ((sI a0).bind fun b => ((xI (⟨(⟨a0.lF.Name, a0.lF.lX, a0.lF.ml⟩ : lF), a0.na, a0.Room, a0.lQ, a0.Shown, a0.mg, a0.mj⟩ : mW) b).bind fun a => (if (a.2.1 != 0) then some ((⟨0, 0, 0, zS, [], []⟩ : zA), a.2.1, a.2.2) else ((rK ([(a.2.2).mj, g])).bind fun c => ((pj c).bind fun d => some ((⟨2, 0, 0, zS, g, a.1⟩ : zA), 0, (⟨(⟨((a.2.2).lF).Name, ((a.2.2).lF).lX, ((a.2.2).lF).ml⟩ : lF), (a.2.2).na, (a.2.2).Room, (a.2.2).lQ, (a.2.2).Shown, (a.2.2).mg, d⟩ : mW))))))))
def zm (a : List lC) : Option (zA × Int) :=
 some ((⟨0, 0, 0, zS, [], []⟩ : zA), 1)
def xO  : Option Bool :=
 ((((GU 1 0 8).bind fun h => some ((⟨#[109, 101]⟩ : ByteArray), ([(⟨(⟨(⟨1, (⟨(⟨#[120]⟩ : ByteArray), (⟨#[121]⟩ : ByteArray)⟩ : lC), (⟨#[109, 101]⟩ : ByteArray), (⟨zS, zS⟩ : lC), (⟨zS, zS⟩ : lC), zS⟩ : lB), h⟩ : Signed), (⟨1, 0, (⟨(⟨#[120]⟩ : ByteArray), (⟨#[122]⟩ : ByteArray)⟩ : lC), []⟩ : Formula)⟩ : mG)]), ([]), zS, ([]), ([]))) : Option (ByteArray × (List mG) × (List ny) × ByteArray × (List mG) × (List ny))).bind fun (v, q, r, P, M, O) => ((yD (⟨v, q, r⟩ : lF) (⟨#[121, 111, 117]⟩ : ByteArray) 9).bind fun b => ((vj b.1 ([])).bind fun s => ((wJ (⟨(⟨((b.1).lF).Name, ((b.1).lF).lX, ((b.1).lF).ml⟩ : lF), (b.1).na, (b.1).Room, (b.1).lQ, (b.1).Shown, (b.1).mg, (b.1).mj⟩ : mW) ([(⟨(⟨#[120]⟩ : ByteArray), (⟨#[121]⟩ : ByteArray)⟩ : lC)])).bind fun d => ((rH d).bind fun g => ((tk d ([])).bind fun a => ((sI (⟨(a.2.2).lF, (a.2.2).na, (a.2.2).Room, [(⟨1, (⟨(⟨#[120]⟩ : ByteArray), (⟨#[122]⟩ : ByteArray)⟩ : lC), (⟨#[121, 111, 117]⟩ : ByteArray), (⟨zS, zS⟩ : lC), (⟨zS, zS⟩ : lC), zS⟩ : lB)], (a.2.2).Shown, (a.2.2).mg, (a.2.2).mj⟩ : mW)).bind fun t => ((tk (⟨(⟨((a.2.2).lF).Name, ((a.2.2).lF).lX, ((a.2.2).lF).ml⟩ : lF), (a.2.2).na, (a.2.2).Room, [(⟨1, (⟨(⟨#[120]⟩ : ByteArray), (⟨#[122]⟩ : ByteArray)⟩ : lC), (⟨#[121, 111, 117]⟩ : ByteArray), (⟨zS, zS⟩ : lC), (⟨zS, zS⟩ : lC), zS⟩ : lB)], (a.2.2).Shown, (a.2.2).mg, (a.2.2).mj⟩ : mW) ([])).bind fun c => ((zm ([])).bind fun u => (((if (b.2 == 0) then some s else some false) : Option Bool).bind fun w => (((if w then some ((g.length : Int) == 1) else some false) : Option Bool).bind fun x => (((if x then ((nD g 0).bind fun o => some (lZ o (⟨(⟨#[120]⟩ : ByteArray), (⟨#[122]⟩ : ByteArray)⟩ : lC))) else some false) : Option Bool).bind fun y => (((if y then some (a.2.1 == 0) else some false) : Option Bool).bind fun z => (((if z then some ((((a.1).qo).length : Int) == 1) else some false) : Option Bool).bind fun A => (((if A then some ((((a.1).pR).length : Int) == 0) else some false) : Option Bool).bind fun D => (((if D then some ((t.length : Int) == 1) else some false) : Option Bool).bind fun F => (((if F then some (c.2.1 == 0) else some false) : Option Bool).bind fun G => (((if G then some ((((c.1).pR).length : Int) == 1) else some false) : Option Bool).bind fun I => (((if I then some ((((c.1).qo).length : Int) == 0) else some false) : Option Bool).bind fun J => (((if J then some (u.2 == 1) else some false) : Option Bool).bind fun L => (((if L then ((vj c.2.2 ([])).bind fun k => some k) else some false) : Option Bool).bind fun l => (((if l then ((vi c.2.2).bind fun j => some ((j.length : Int) == 1)) else some false) : Option Bool).bind fun m => (((if m then ((pJ c.2.2).bind fun i => some ((i.length : Int) == 1)) else some false) : Option Bool).bind fun n => some n)))))))))))))))))))))))
def qI  : List lC → (List (lC × Bool)) → Option ((Bool ⊕ (ByteArray × (List mG) × (List ny) × ByteArray × Int × (List lB) × (List lB) × (List lC) × (List lC))) ⊕ (List (lC × Bool)))
 | [], a => some (Sum.inr a)
 | b :: c, a => (if (ua lZ a b false) then some (Sum.inl (Sum.inl false)) else (qI c (oz lZ a b true)))
def qG (d : (zA × Int × mW)) (c : List lB) : List Signed → (List (lB × Bool)) → Option ((Bool ⊕ (ByteArray × (List mG) × (List ny) × ByteArray × Int × (List lB) × (List lB) × (List lC) × (List lC))) ⊕ (List (lB × Bool)))
 | [], a => some (Sum.inr a)
 | b :: g, a => (((if (ua mC a b.lB false) then some true else ((zd d.2.2 b.lB).bind fun i => some (!i))) : Option Bool).bind fun j => (((if j then some true else ((BD c b.lB).bind fun h => some (!h))) : Option Bool).bind fun k => (if k then some (Sum.inl (Sum.inl false)) else (qG d c g (oz mC a b.lB true)))))
def pD (z : List lC) : Nat → (List (lB × Bool)) → (List (lC × Bool)) → Int → ByteArray → (List mG) → (List ny) → ByteArray → Int → (List lB) → (List lB) → (List lC) → (List lC) → Option (Bool ⊕ (ByteArray × (List mG) × (List ny) × ByteArray × Int × (List lB) × (List lB) × (List lC) × (List lC)))
 | 0, _, _, _, _, _, _, _, _, _, _, _, _ => none
 | t + 1, n, o, m, j, b, c, k, l, d, g, h, i => (if (decide (m < 5)) then ((pJ (⟨(⟨j, b, c⟩ : lF), k, l, d, g, h, i⟩ : mW)).bind fun w => ((tk (⟨(⟨j, b, c⟩ : lF), k, l, d, g, h, i⟩ : mW) z).bind fun a => (((if (a.2.1 != 0) then some true else ((Bw a.1).bind fun x => some (!x))) : Option Bool).bind fun y => (if y then some (Sum.inl false) else ((qG a w ((a.1).pR) n : Option ((Bool ⊕ (ByteArray × (List mG) × (List ny) × ByteArray × Int × (List lB) × (List lB) × (List lC) × (List lC))) ⊕ (List (lB × Bool)))).bind fun s => match s with | .inl v => some v | .inr q => ((qI ((a.1).qo) o : Option ((Bool ⊕ (ByteArray × (List mG) × (List ny) × ByteArray × Int × (List lB) × (List lB) × (List lC) × (List lC))) ⊕ (List (lC × Bool)))).bind fun s => match s with | .inl u => some u | .inr r => (pD z t q r (IntKind.i64.wrap (m + 1)) (((a.2.2).lF).Name) (((a.2.2).lF).lX) (((a.2.2).lF).ml) ((a.2.2).na) ((a.2.2).Room) ((a.2.2).lQ) ((a.2.2).Shown) ((a.2.2).mg) ((a.2.2).mj)))))))) else some (Sum.inr (j, b, c, k, l, d, g, h, i)))
def qz  : List lC → (List (lC × Bool)) → Option (List (lC × Bool))
 | [], a => some a
 | c :: b, a => (qz b (oz lZ a c true))
def qC (a0 : mW) (t : List lC) : List lB → (List (lB × Bool)) → Option Bool
 | [], a => ((qz a0.mj ([]) : Option (List (lC × Bool))).bind fun q => ((pD t mR a q 0 a0.lF.Name a0.lF.lX a0.lF.ml a0.na a0.Room a0.lQ a0.Shown a0.mg a0.mj : Option (Bool ⊕ (ByteArray × (List mG) × (List ny) × ByteArray × Int × (List lB) × (List lB) × (List lC) × (List lC)))).bind fun s => match s with | .inl j => some j | .inr (l, b, c, m, n, d, g, h, i) => ((yK (⟨(⟨l, b, c⟩ : lF), m, n, d, g, h, i⟩ : mW)).bind fun k => some k)))
 | r :: o, a => (qC a0 t o (oz mC a r true))
def vt (a0 : mW) (h : List lC) : Option Bool :=
 (xO.bind fun b => (if (!b) then some false else ((zU a0).bind fun c => (((if (decide (c > 3500)) then some true else ((yK a0).bind fun a => some (!a))) : Option Bool).bind fun d => (((if d then some true else some (decide ((h.length : Int) > 20))) : Option Bool).bind fun g => (if g then some true else qC a0 h a0.Shown ([])))))))
end
end Go.Proofs.YtklbhegeiijbjaaGreat
