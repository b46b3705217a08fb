/- a part of a proof of EagerRests -/
import Derived.Test.YtmlncblocfcmiaaGreatRtVe
import Derived.Shelf.SlSortCmp.NoneTotal
import Derived.Shelf.SortM.Plain
import Derived.Shelf.SortM.SortNone
import Derived.Shelf.SlIter.Sorted
import Derived.Shelf.SlIter.Nil
import Derived.Test.YtmlncblocfcmiaaGreatProg
import Derived.KernelRfl
set_option linter.all false
namespace Go.Proofs.YtmlncblocfcmiaaGreat
open Go.RowKit
section
variable {dd : Bool}
def xM {α : Type} (R : pj α) : km → List Value → α → Prop := fun μ vs x => ∃ ys, vs = [.agg ys.toArray] ∧ R μ ys x
def th {α β : Type} (R : pj α) (S : pj β) : km → List Value → α × β → Prop := fun μ vs x => ∃ ys zs, vs = [.agg ys.toArray, .agg zs.toArray] ∧ R μ ys x.1 ∧ S μ zs x.2
theorem xM.mk {α : Type} {R : pj α} {k : Nat} {μ μ' : km} {ys : List Value} {x : α} (a : Deep R k) (h : R μ ys x) (b : kf μ μ') : xM R μ' [.agg ys.toArray] x := ⟨ys, rfl, a.mono _ _ _ _ b h⟩
theorem th.mk {α β : Type} {R : pj α} {S : pj β} {k m : Nat} {μ μ' : km} {ys zs : List Value} {x : α} {y : β} (c : Deep R k) (d : Deep S m) (h : R μ ys x) (b : S μ zs y) (a : kf μ μ') : th R S μ' [.agg ys.toArray, .agg zs.toArray] (x, y) :=
 ⟨ys, zs, rfl, c.mono _ _ _ _ a h, d.mono _ _ _ _ a b⟩
def uK {α β : Type} (P : Program) (fv : Value) (μ : km) (a : km → List Value → α → Prop) (b : β → Value) (pm : α → Option β) : Prop :=
 ∃ f first caps, fv = .func (.func f) first caps ∧ (∀ args w, (callFunc f args).run P w = .ok (.enter f args) w) ∧ ∀ W x vs r, kf μ (hp W) → a (hp W) vs x → pm x = some r → ki false P f (first.toList ++ (vs ++ caps.toList)) W (b r)
theorem uK.form {α β : Type} {P : Program} {fv : Value} {μ : km} {c : km → List Value → α → Prop} {d : β → Value} {pm : α → Option β} (h : uK P fv μ c d pm) : ∃ f a b, fv = .func f a b := let ⟨f, a, b, h, _⟩ := h; ⟨_, a, b, h⟩
end
section
variable {P : Program} {W : World} {E : Nat → Value} {d : Option Nat} {ty : TypeId} {pos : String} {af : Array Edge} {g : Option (Nat × Bool)} {F : Nat → Prop} {w : World} {μ μ0 : km} {L : List (Nat × Obj)}
theorem uK.mono {α β : Type} {fv : Value} {a : km → List Value → α → Prop} {b : β → Value} {pm : α → Option β} (h : uK P fv μ a b pm) (g : kf μ μ0) : uK P fv μ0 a b pm := by
 obtain ⟨f, first, caps, h1, c, d⟩ := h
 exact ⟨f, first, caps, h1, c, fun W x vs r h => d W x vs r (g.trans h)⟩
theorem wu {α β : Type} {K : Value → World → Prop} {fv : Value} {i : km → List Value → α → Prop} {j : β → Value} {pm : α → Option β} {b : Operand} {ax : Array Operand} {ats : Array TypeId} (x : α) {vs : List Value} {r : β} (a : ST false F w W μ L) (q : uK P fv μ0 i j pm) (t : kf μ0 μ) (o : i (hp W) vs x) (s : jP E b = fv) (ha : ax.map (jP E) ++ (#[] : Array Value) = vs.toArray) (hm : pm x = some r) (h : ∀ W', ST false F w W' μ L → K (j r) W') : mL P E ⟨d, .call ⟨.value b, ax, ats⟩, ty, pos, af, g⟩ W K := by
 obtain ⟨f, first, caps, rfl, k, l⟩ := q
 have c : ax.map (jP E) = vs.toArray := by simpa using ha
 refine .inr (.inr ⟨f, (first.toList ++ (vs ++ caps.toList)).toArray, ?_, dC (l W x vs r (t.trans a.jJ) o hm) (fun _ _ ⟨m, n⟩ => ⟨_, m, h _ (a.E8 n)⟩)⟩)
 show (do let d ← resolve (jP E) ⟨.value b, ax, ats⟩ ty; invoke d.target d.args : Sem Next).run P W = _
 simp only [resolve, s, Deferred.ofValue, cE, dq, bN, invoke, c, k]
 congr 2
 simp
end
section
variable {dd : Bool}
variable {β : Type} {Rl : pj β} {k : Nat} {μ : km} {v : Value} {l : List β} {e : TypeId} {B : List (Nat × Obj)}
variable {F : Nat → Prop} {w W : World} {L : List (Nat × Obj)}
variable {P : Program} {E : Nat → Value} {d : Option Nat} {ty : TypeId} {pos : String} {af : Array Edge} {g : Option (Nat × Bool)}
theorem H9 {α : Type} {enc : α → List Value} (hk : ∀ x, (enc x).length = k) (c : 0 < k) (d : ∀ x y, enc x = enc y → x = y) : ∀ {l m : List α}, (l.map enc).flatten = (m.map enc).flatten → l = m
 | [], [], _ => rfl
 | [], b :: m, h => by
  have := aX List.length h
  simp only [fk, dp, bU, bH, bK, aD, hk] at this
  omega
 | a :: l, [], h => by
  have := aX List.length h
  simp only [fk, dp, bU, bH, bK, aD, hk] at this
  omega
 | a :: l, b :: m, h => by
  simp only [bH, bK] at h
  obtain ⟨h1, g⟩ := List.append_inj h (by rw [hk, hk])
  rw [d _ _ h1, H9 hk c d g]
theorem Qv (x y : vE k) (h : uj x = uj y) : x = y := Subtype.ext h
theorem kk.pre {v1 : Value} {cl a : List (vE k)} (d : 0 < k) (h : kk e uj k v cl B) (h1 : kk e uj k v1 a B) (c : a.length ≤ cl.length) : a = cl.take a.length := by
 rcases h with ⟨rfl, rfl, rfl⟩ | ⟨q, cap, b, rfl, rfl, r, s, t, n⟩
 ·simp at c; simp [c]
 ·rcases h1 with ⟨_, _, h⟩ | ⟨g1, g, i, rfl, j, o, a2, a3, a4⟩
  ·cases h
  ·cases j
   refine H9 yF d Qv ?_
   rw [← a4]
   have hle : a.length * k ≤ cl.length * k := cO _ c
   have : b.toList.take (a.length * k) = (b.toList.take (cl.length * k)).take (a.length * k) := by rw [ga, dE hle]
   rw [this, n]
   have l : (cl.map uj).flatten = ((cl.take a.length).map uj).flatten ++ ((cl.drop a.length).map uj).flatten := by rw [← cQ, ← cD, gq]
   have m : ((cl.take a.length).map uj).flatten.length = a.length * k := by rw [pt yF, cY, dE c]
   rw [l, ← m, List.take_left]
theorem oU.replicate {α β : Type} {Q : α → β → Prop} {a : α} {b : β} (h : Q a b) : ∀ n, oU Q (List.replicate n a) (List.replicate n b)
 | 0 => .nil
 | n + 1 => .cons h (oU.replicate h n)
theorem oU.QC {α β : Type} {Q : α → β → Prop} {l : List α} {m : List β} (h : oU Q l m) {a : α} {b : β} (c : Q a b) (i : Nat) : oU Q (nh l i a) (nh m i b) := by
 unfold nh
 rw [h.length]
 exact (h.take i).append (oU.replicate c _)
theorem EO {t e' : TypeId} {x ih : Operand} {s : IntKind} {i : Int} (q : P.underlying t = some (.slice e')) (he : ∀ w, (sizeOf e').run P w = .ok k w) (r : jP E x = v) (n : jP E ih = .int s i) (h : kR e Rl k μ v l B) (c : 0 ≤ i) (o : i ≤ l.length) :
  ∃ a, kR e Rl k μ a (l.take i.toNat) B ∧ ∀ W, lV P E ⟨d, .slice t x none (some ih) none, ty, pos, af, g⟩ W a W := by
 obtain ⟨cl, h1, b⟩ := h
 obtain ⟨a, j, m⟩ := vj (d := d) (ty := ty) (pos := pos) (af := af) (g := g) q he r n h1 yF c (by rw [b.length]; exact o)
 exact ⟨a, ⟨_, j, b.take _⟩, m⟩
theorem zy {t e' : TypeId} {x a : Operand} {q : IntKind} {i : Int} (n : P.underlying t = some (.slice e')) (he : ∀ w, (sizeOf e').run P w = .ok k w) (o : jP E x = v) (j : jP E a = .int q i) (h : kR e Rl k μ v l B) (b : 0 ≤ i) (m : i ≤ l.length) :
  ∃ u, yM k v i.toNat u ∧ ∀ W, lV P E ⟨d, .slice t x (some a) none none, ty, pos, af, g⟩ W u W := by
 obtain ⟨cl, h1, c⟩ := h
 exact tg n he o j h1 b (by rw [c.length]; exact m)
theorem JD {t e' : TypeId} {x : Operand} {u : Value} {i : Nat} (b : P.underlying t = some (.slice e')) (c : jP E x = u) (hu : yM k v i u) (h : kR e Rl k μ v l B) : lV P E ⟨d, .call ⟨.builtin .len, #[x], #[t]⟩, ty, pos, af, g⟩ W (.int .i64 ((l.length - i : Nat) : Int)) W := by
 obtain ⟨cl, h1, a⟩ := h
 rw [← a.length]
 exact CN b c hu h1
theorem zD {t e' : TypeId} {x j : Operand} {G : IntKind} {i : Int} {x0 : β} {u : Value} {o : Nat} {A : List Value → Prop} (y : ∀ {ys}, Rl μ ys x0 → A ys) (D : P.underlying t = some (.slice e')) (he : ∀ w, (sizeOf e').run P w = .ok k w) (F : jP E x = u) (r : jP E j = .int G i) (h : kR e Rl k μ v l B) (hu : yM k v o u) (m : 0 ≤ i) (s : (l.drop o)[i.toNat]? = some x0) :
  ∃ p, (∃ ys, A ys ∧ At (Az B) p ys ∧ zK B k p (o + i.toNat)) ∧ ∀ W, lV P E ⟨d, .indexAddr t x j, ty, pos, af, g⟩ W p W := by
 obtain ⟨cl, h1, n⟩ := h
 obtain ⟨c, b, z⟩ := (n.drop o).get s
 obtain ⟨p, a, q⟩ := tf (d := d) (ty := ty) (pos := pos) (af := af) (g := g) D he F r h1 hu m b
 exact ⟨p, ⟨c.1, y z, a.at h1 yF (vg b), a⟩, q⟩
theorem Cq {K : Value → World → Prop} {z : β} {zs : List Value} {Y : List (Nat × Obj)} {t e' : TypeId} {x : Operand} {u c : Value} {i : Nat} (n : Deep Rl k) (b : ST dd F w W μ (B ++ Y)) (h : kR e Rl k μ v l B) (a : Rl μ zs z) (r : P.underlying t = some (.slice e')) (y : ∀ w, (zeroValue e').run P w = .ok c w) (hu : yM k v i u) (q : c.cells = zs.toArray) (s : jP E x = u) (o : ∀ W' R', ST dd F w W' μ (R' ++ Y) → kR e Rl k μ v (nh l i z) R' → K (.tuple #[]) W') : mL P E ⟨d, .call ⟨.builtin .clear, #[x], #[t]⟩, ty, pos, af, g⟩ W K := by
 obtain ⟨cl, h1, m⟩ := h
 exact vY (n.cell a) b h1 yF Mx r y hu q s (fun W' R' j a2 => o W' R' j ⟨_, a2, m.QC a i⟩)
end
section
variable {P : Program} {W : World} {E : Nat → Value} {d : Option Nat} {ty : TypeId} {pos : String} {af : Array Edge} {g : Option (Nat × Bool)}
theorem KG {c m : TypeId} {x y : Operand} {fv : Value} {s u : Array TypeId} {bb : Bool} (j : P.underlying c = some (.func s u bb)) (h : ∃ f a b, fv = .func f a b) (k : jP E x = fv) (l : jP E y = .nilFunc) :
  lV P E ⟨d, .binOp .neq c x y m, ty, pos, af, g⟩ W (.bool true) W := by
 obtain ⟨f, a, b, rfl⟩ := h
 show (do let r ← (do eqGuard .neq c x y (jP E x) (jP E y); binOp .neq c (jP E x) (jP E y)); pure (.value r) : Sem Next).run P W = _
 rw [k, l]
 have i := D7 9999 j f a b W
 simp [eqGuard, binOp, Op.equal, show Op.maxDepth = 9999 + 1 from rfl, i]
end
end Go.Proofs.YtmlncblocfcmiaaGreat
namespace Go.Proofs.YtmlncblocfcmiaaGreat
open Go.RowKit
theorem bS {α β : Type} {m : Option α} {f : α → Option β} {r : β} {G : Prop} (h : m.bind f = some r) (k : ∀ x, m = some x → f x = some r → G) : G :=
 let ⟨x, a, b⟩ := bind_some h
 k x a b
theorem sj {α : Type} {a b : α} (h : some a = some b) : a = b := Option.some.inj h
theorem bC {α : Type} {b : Bool} {x y r : α} {G : Prop} (h : (if b = true then x else y) = r) (a : b = true → x = r → G) (k2 : b = false → y = r → G) : G := by
 rcases Ju b with e | e
 ·exact a e (O2 e h)
 ·exact k2 e (ON e h)
theorem cB {a b : Bool} (h : a = b) : Value.bool a = Value.bool b := aX Value.bool h
theorem nb {a b : Nat} (h : Nat.ble a b = true := by exact rfl) : a ≤ b := Nat.le_of_ble_eq_true h
def Qe : Nat → Nat → List Bool
 | 0, _ => []
 | n + 1, m => (m % 2 == 1) :: Qe n (m / 2)
def bm (n m : Nat) : Array Bool := (Qe n m).toArray
section
variable {P : Program} {n : Nat} {Q : pU} {E : Nat → Value} {W : World}
theorem CI {α : Type} {co : Operand} {b : Bool} {x y : Code} {A B r : α} (hm : (if b = true then A else B) = r) (a : jP E co = .bool b) (d : b = true → A = r → CW P n x Q E W) (c : b = false → B = r → CW P n y Q E W) : CW P n (.cond co x y) Q E W :=
 Ko a (fun e => d e (O2 e hm)) (fun e => c e (ON e hm))
theorem CJ {c ρ : Type} {m : Option c} {k : c → Option ρ} {r : ρ} {x : Code} {K : (Nat → Value) → World → Prop} (hm : m.bind k = some r) (I : c → (Nat → Value) → World → Prop) (h1 : ∀ s, m = some s → CW P n x (pS (I s) Q) E W) (d : ∀ s E W, I s E W → k s = some r → K E W) : CW P n x (pS K Q) E W :=
 let ⟨s, a, b⟩ := bind_some hm
 KT (I s) (h1 s a) (fun E W h => d s E W h b)
theorem M5 {d ρ c : Type} {m : Option (c ⊕ d)} {k : c ⊕ d → Option ρ} {r : ρ} {x : Code} {K : (Nat → Value) → World → Prop} (hm : m.bind k = some r) (I : d → (Nat → Value) → World → Prop) (h1 : ∀ s, m = some s → k s = some r → CW P n x (pS (fun E W => ∃ t, s = .inr t ∧ I t E W) Q) E W) (g : ∀ s E W, I s E W → k (.inr s) = some r → K E W) : CW P n x (pS K Q) E W :=
 let ⟨s, a, b⟩ := bind_some hm
 KT (fun E W => ∃ t, s = .inr t ∧ I t E W) (h1 s a b) (fun E W ⟨t, e, h⟩ => g t E W h (by subst e; exact b))
theorem LJ {c ρ : Type} {m : Option c} {k : c → Option ρ} {r : ρ} {ops : Array Oper} {rest : List Oper} (hm : m.bind k = some r) (I : c → (Nat → Value) → World → Prop) (j : Nat) (d : ∀ s E W, I s E W → k s = some r → LW P n ops Q (rest.drop j) E W) (h1 : ∀ s, m = some s → (∀ E W, I s E W → LW P n ops Q (rest.drop j) E W) → LW P n ops Q rest E W) : LW P n ops Q rest E W :=
 let ⟨s, a, b⟩ := bind_some hm
 h1 s a (fun E W h => d s E W h b)
theorem PJ {c ρ : Type} {m : Option c} {k : c → Option ρ} {r : ρ} {ops : Array Oper} {S : Array Bool → World → Prop} {fuel : Nat} {listed : Array Bool} (hm : m.bind k = some r) (I : c → (Nat → Value) → World → Prop) (g : Array Bool) (d : Nat) (i : ∀ s E W, I s E W → k s = some r → PX P n ops Q S d g E W) (h1 : ∀ s, m = some s → (∀ E W, I s E W → PX P n ops Q S d g E W) → PX P n ops Q S fuel listed E W) : PX P n ops Q S fuel listed E W :=
 let ⟨s, a, b⟩ := bind_some hm
 h1 s a (fun E W h => i s E W h b)
end
section
variable {dd : Bool} {P : Program} {fn : Func} {E : Nat → Value} {W w : World} {μ : km} {L : List (Nat × Obj)}
theorem rP {t : Tmp} {v : Value} (a : ST dd kQ w W μ L) (b : fn.results = #[.tmp t] := by exact rfl) (c : E t = v := by exact rfl) : xz P fn (fun e W' => e = .returned v ∧ Ex dd w W') .ret E W := lq b c ⟨rfl, a.ex⟩
end
theorem ST.Cz {dd : Bool} {F : Nat → Prop} {w W : World} {μ : km} {x : Nat × Obj} {L : List (Nat × Obj)} (h : ST dd F w W μ (x :: L)) : ST dd F w W μ ([x] ++ L) := h
theorem ST.On {dd : Bool} {F : Nat → Prop} {w W : World} {μ : km} {L : List (Nat × Obj)} (h : ST dd F w W μ L) : ST dd F w W μ ([] ++ L) := h
theorem aL {E : Nat → Value} {ax : Array Operand} {l : List Value} (h : ax.toList.map (jP E) = l) : ax.map (jP E) ++ (#[] : Array Value) = l.toArray := by subst h; apply Array.ext'; simp
section
variable {dd : Bool}
variable {P : Program} {E : Nat → Value} {W : World} {d : Option Nat} {ty : TypeId} {pos : String} {af : Array Edge} {g : Option (Nat × Bool)}
 {F : Nat → Prop} {w : World} {μ : km} {L : List (Nat × Obj)}
variable {f : FuncId} {fv : Operand} {ax : Array Operand} {ats : Array TypeId} {args : List Value} {v : Value} {K : Value → World → Prop}
theorem Eg (a : ST dd F w W μ L) (he : ∀ args w, (callFunc f args).run P w = .ok (.enter f args) w) (b : ki dd P f args W v) (h : ∀ W', ST dd F w W' μ L → K v W') (c : jP E fv = .func (.func f) #[] #[] := by exact rfl) (ha : ax.toList.map (jP E) = args := by exact rfl) : mL P E ⟨d, .call ⟨.value fv, ax, ats⟩, ty, pos, af, g⟩ W K := IW a c he (aL ha) b h
theorem sG {α : Type} {e : TypeId} {enc : α → List Value} {k : Nat} {l : List α} {Y : List (Nat × Obj)} (a : ST dd F w W μ Y) (he : ∀ args w, (callFunc f args).run P w = .ok (.enter f args) w) (b : mw dd P f args W e enc k l) (h : ∀ W' v μ' R, ST dd F w W' μ' (R ++ Y) → kf μ μ' → Lo F w μ μ' → kk e enc k v l R → K v W') (c : jP E fv = .func (.func f) #[] #[] := by exact rfl) (ha : ax.toList.map (jP E) = args := by exact rfl) : mL P E ⟨d, .call ⟨.value fv, ax, ats⟩, ty, pos, af, g⟩ W K := JM _ a c he (aL ha) b h
theorem G4 {K' : Value → List (Nat × Obj) → World → Prop} {L0 L2 : List (Nat × Obj)} (i : ST dd F w W μ L) (j : L.Perm (L0 ++ L2)) (he : ∀ args w, (callFunc f args).run P w = .ok (.enter f args) w) (k : Cm L0 W → (L0.map (·.1)).Nodup → kf μ (ta W L0) → (∀ b o, (b, o) ∈ L2 → ta W L0 b = some o) → lC dd P f args W L0 K') (h : ∀ W' v μ' L1, ST dd F w W' μ' (L1 ++ L2) → kf μ μ' → Lo F w μ μ' → (∀ b, W.heap.size ≤ b → ∀ o, ta W' L1 b = some o → μ' b = some o) → K' v L1 W' → K v W') (l : jP E fv = .func (.func f) #[] #[] := by exact rfl) (ha : ax.toList.map (jP E) = args := by exact rfl) : mL P E ⟨d, .call ⟨.value fv, ax, ats⟩, ty, pos, af, g⟩ W K :=
 NU L0 L2 i j l he (aL ha) (fun a b c d => by have := k a b c d; simpa using this) h
theorem LH {K' : Value → List (Nat × Obj) → km → Prop} {L0 L2 : List (Nat × Obj)} (i : ST dd F w W μ L) (j : L.Perm (L0 ++ L2)) (he : ∀ args w, (callFunc f args).run P w = .ok (.enter f args) w) (k : Cm L0 W → (L0.map (·.1)).Nodup → kf μ (ta W L0) → (∀ b o, (b, o) ∈ L2 → ta W L0 b = some o) → lM dd P f args W μ L0 K') (h : ∀ W' v μ' L1, ST dd F w W' μ' (L1 ++ L2) → kf μ μ' → Lo F w μ μ' → K' v L1 μ' → K v W') (l : jP E fv = .func (.func f) #[] #[] := by exact rfl) (ha : ax.toList.map (jP E) = args := by exact rfl) : mL P E ⟨d, .call ⟨.value fv, ax, ats⟩, ty, pos, af, g⟩ W K :=
 Ig L0 L2 i j l he (aL ha) (fun a b c d => by have := k a b c d; simpa using this) h
end
section
variable {E : Nat → Value} {x1 x2 x3 x4 x5 x6 x7 x8 : Operand} {v1 v2 v3 v4 v5 v6 v7 v8 : Value}
theorem Qj (h1 : jP E x1 = v1) : [x1].map (jP E) = [v1] := by rw [← h1]; rfl
end
end Go.Proofs.YtmlncblocfcmiaaGreat
namespace Go.Proofs.YtmlncblocfcmiaaGreat
open Go.RowKit
def QZ (R : List (Nat × Obj)) (k : Nat) (p : Value) (i a : Nat) : Prop := ∃ g o, R = [(g, o)] ∧ p = .pointer (some ⟨g, i * k + a, none⟩)
theorem zK.f {R : List (Nat × Obj)} {k : Nat} {p : Value} {i : Nat} (h : zK R k p i) : QZ R k p i 0 := h
section
variable {P : Program} {E : Nat → Value} {W : World} {d : Option Nat} {ty : TypeId} {pos : String} {af : Array Edge} {g : Option (Nat × Bool)}
 {dd : Bool} {F : Nat → Prop} {w : World} {μ : km} {L : List (Nat × Obj)} {α : Type} {e' : TypeId} {enc : α → List Value} {k : Nat} {v : Value} {l : List α} {R : List (Nat × Obj)}
theorem kk.put (h : kk e' enc k v l R) (hk : ∀ x, (enc x).length = k) {p : Value} {i : Nat} (hp : zK R k p i) {x0 : α} (r : l[i]? = some x0) (x1 : α) :
  ∃ g a, R = [(g, .cells a e' (0, 0))] ∧ p = .pointer (some ⟨g, i * k, none⟩) ∧ i * k + k ≤ a.size ∧ (∀ j y, (enc x0)[j]? = some y → a[i * k + j]? = some y) ∧
   kk e' enc k v (l.set i x1) [(g, .cells (a.toList.take (i * k) ++ enc x1 ++ a.toList.drop (i * k + k)).toArray e' (0, 0))] := by
 have m : i < l.length := (bG.1 r).1
 obtain ⟨o, a, cap, rfl, rfl, q, u, d, w, rfl, z⟩ := zt h hk hp r
 have hle : i * k + k ≤ cap * k := by
  have : (i + 1) * k ≤ cap * k := cO _ (by omega)
  rwa [cN, js] at this
 have b : i * k + k ≤ l.length * k := by
  have : (i + 1) * k ≤ l.length * k := cO _ (by omega)
  rwa [cN, js] at this
 have hlen : l.length * k ≤ cap * k := cO _ q
 refine ⟨o, a, rfl, rfl, by rw [d]; exact hle, z, .inr ⟨o, cap, _, by simp, rfl, by simpa using q, u, ?_, ?_⟩⟩
 ·show ((a.toList.take (i * k) ++ (enc x1) ++ a.toList.drop (i * k + k)).toArray).size = _
  have c : a.toList.length = cap * k := by simpa using d
  rw [dK, aD, aD, cY, gu, hk, c, dE (by omega)]; omega
 ·rw [gH, Ei hk l i x1 m, ← w]
  have s : (a.toList.take (l.length * k)).take (i * k) = a.toList.take (i * k) := by rw [ga]; congr 1; omega
  have t : (a.toList.take (l.length * k)).drop (i * k + k) = (a.toList.drop (i * k + k)).take (l.length * k - (i * k + k)) := by rw [gT]
  rw [s, t]
  show List.take (l.length * k) (a.toList.take (i * k) ++ enc x1 ++ a.toList.drop (i * k + k)) = _
  have c : a.toList.length = cap * k := by simpa using d
  have n : (a.toList.take (i * k) ++ enc x1).length = i * k + k := by rw [aD, cY, hk, c, dE (by omega)]
  rw [fg, dr (by rw [n]; exact b), n]
end
end Go.Proofs.YtmlncblocfcmiaaGreat
namespace Go.Proofs.YtmlncblocfcmiaaGreat
open Go.RowKit
theorem oc {v : Value} (h : v.cells.toList.all Value.oneCell' = true := by exact rfl) : ∀ u ∈ v.cells.toList, u.oneCell' = true := iY.1 h
theorem dc {p : Prop} [Decidable p] (h : p := by decide) : p := h
theorem kr {p : Prop} (h : p := by kernel_rfl) : p := h
theorem br {α : Sort _} {a b : α} (h : a = b := by rfl) : a = b := h
abbrev LO := List (Nat × Obj)
abbrev Ob (c : Array Value) (t : TypeId) : Obj := .cells c t (0, 0)
abbrev Ol (c : List Value) (t : TypeId) : Obj := .cells c.toArray t (0, 0)
theorem na {P : Program} {t e : TypeId} {m k : Nat} {z : Value} {a : Array (Nat × Value)} {cs : Array Value} (i : P.underlying t = some (.slice e)) (g : ∀ w, (sizeOf e).run P w = .ok k w) (l : ∀ w, (zeroValue e).run P w = .ok z w) (hm : m * k ≤ 16777216 := by decide) (d : a.toList = (a.toList.map (·.2)).zipIdx.map (fun p => (p.2, p.1)) := by exact rfl) (j : (a.toList.map (·.2)).all (fun v => v.cells.size == k) = true := by exact rfl) (c : (a.toList.map (·.2)).length = m := by exact rfl) (b : ((a.toList.map (·.2)).flatMap (fun v => v.cells.toList)).toArray = cs := by exact rfl) (W : World) :
  (Instr.buildSlice t m a).run P W = .ok (.slice (some ⟨W.heap.size, 0, none⟩) m m) (W.alloc (.cells cs e (0, 0))) :=
 wS _ i g l hm d (fun v h => eq_of_beq (iY.1 j v h)) c b W
section
variable {dd : Bool} {P : Program} {fn : Func} {E : Nat → Value} {W w : World} {μ : km} {L L0 : List (Nat × Obj)}
theorem rQ {α : Type} {f : α → Value} {a r : α} {t : Tmp} (hm : some a = some r) (b : ST dd kQ w W μ L) (c : fn.results = #[.tmp t] := by exact rfl) (d : E t = f a := by exact rfl) : xz P fn (fun e W' => e = .returned (f r) ∧ Ex dd w W') .ret E W := by
 obtain rfl := sj hm; exact lq c d ⟨rfl, b.ex⟩
theorem cG (n : Nat) {f : FuncId} {c : Code} {args : List Value} {v : Value} (a : P.funcs[f]? = some fn) (b : fn.body = some c) (h : ST dd kQ w w (hp w) [] → CW P n c (xz P fn (fun e i => e = .returned v ∧ Ex dd w i)) (BG args) w) (g : fn.ntmps = n := by exact rfl) (d : args.length ≤ n := by exact nb) : ki dd P f args w v := xZ a b g d (h (ST.start w))
theorem wX {K : Value → List (Nat × Obj) → World → Prop} (n : Nat) {f : FuncId} {c : Code} {args : List Value} (a : P.funcs[f]? = some fn) (d : fn.body = some c) (h : ST dd kQ w w (hp w) [] → CW P n c (xz P fn (fun e b => ∃ v L1, e = .returned v ∧ sI dd [] L1 w b ∧ K v L1 b)) (BG args) w) (i : fn.ntmps = n := by exact rfl) (g : args.length ≤ n := by exact nb) : lC dd P f args w [] K := xZ a d i g (h (ST.start w))
theorem yl {K : Value → List (Nat × Obj) → World → Prop} (d : ni μ L0 w) (n : Nat) {f : FuncId} {c : Code} {args : List Value} (a : P.funcs[f]? = some fn) (g : fn.body = some c) (h : ST dd (keys L0) w w μ L0 → CW P n c (xz P fn (fun e b => ∃ v L1, e = .returned v ∧ sI dd L0 L1 w b ∧ K v L1 b)) (BG args) w) (j : fn.ntmps = n := by exact rfl) (i : args.length ≤ n := by exact nb) : lC dd P f args w L0 K := xZ a g j i (h (ST.Kv d))
theorem sO {K : Value → List (Nat × Obj) → km → Prop} (d : ni μ L0 w) (n : Nat) {f : FuncId} {c : Code} {args : List Value} (a : P.funcs[f]? = some fn) (g : fn.body = some c) (h : ST dd (keys L0) w w μ L0 → CW P n c (xz P fn (fun e b => ∃ v L1 μ1, e = .returned v ∧ sI dd L0 L1 w b ∧ kf μ μ1 ∧ Lo (keys L0) w μ μ1 ∧ kf μ1 (ta b L1) ∧ K v L1 μ1)) (BG args) w) (j : fn.ntmps = n := by exact rfl) (i : args.length ≤ n := by exact nb) : lM dd P f args w μ L0 K := xZ a g j i (h (ST.Kv d))
end
section
variable {dd : Bool}
variable {P : Program} {E : Nat → Value} {W : World} {d : Option Nat} {ty : TypeId} {pos : String} {af : Array Edge} {g : Option (Nat × Bool)}
 {F : Nat → Prop} {w : World} {μ : km} {L : List (Nat × Obj)}
variable {f : FuncId} {fv : Operand} {ax : Array Operand} {ats : Array TypeId} {args : List Value} {v : Value} {K : Value → World → Prop}
theorem eM {K' : Value → List (Nat × Obj) → World → Prop} {L0 L2 : List (Nat × Obj)} (i : ST dd F w W μ L) (j : L.Perm (L0 ++ L2)) (he : ∀ args w, (callFunc f args).run P w = .ok (.enter f args) w) (k : ni (ta W L0) L0 W → kf μ (ta W L0) → lC dd P f args W L0 K') (h : ∀ W' v μ' L1, ST dd F w W' μ' (L1 ++ L2) → kf μ μ' → Lo F w μ μ' → (∀ b, W.heap.size ≤ b → ∀ o, ta W' L1 b = some o → μ' b = some o) → K' v L1 W' → K v W') (l : jP E fv = .func (.func f) #[] #[] := by exact rfl) (ha : ax.toList.map (jP E) = args := by exact rfl) : mL P E ⟨d, .call ⟨.value fv, ax, ats⟩, ty, pos, af, g⟩ W K :=
 G4 i j he (fun a b c _ => k ⟨a, b, kf.refl _⟩ c) h l ha
theorem eD {K' : Value → List (Nat × Obj) → km → Prop} {L0 L2 : List (Nat × Obj)} (i : ST dd F w W μ L) (j : L.Perm (L0 ++ L2)) (he : ∀ args w, (callFunc f args).run P w = .ok (.enter f args) w) (k : ni μ L0 W → lM dd P f args W μ L0 K') (h : ∀ W' v μ' L1, ST dd F w W' μ' (L1 ++ L2) → kf μ μ' → Lo F w μ μ' → K' v L1 μ' → K v W') (l : jP E fv = .func (.func f) #[] #[] := by exact rfl) (ha : ax.toList.map (jP E) = args := by exact rfl) : mL P E ⟨d, .call ⟨.value fv, ax, ats⟩, ty, pos, af, g⟩ W K :=
 LH i j he (fun a b c _ => k ⟨a, b, c⟩) h l ha
end
def KY (op : BinOp) : Value → Value → Option Value
 | .int k a, .int k' b => if k = k' then GY k op a b else none
 | _, _ => none
def Oy (i : Nat) : Value → Option Value
 | .tuple vs => vs[i]?
 | _ => none
def GX : Value → Bool
 | .pointer (some ⟨_, _, none⟩) => true
 | _ => false
def Py (o : Nat) : Value → Value
 | .pointer (some ⟨b, k, none⟩) => .pointer (some ⟨b, k + o, none⟩)
 | v => v
theorem Gn {v : Value} (h : GX v = true) : ∃ b k, v = .pointer (some ⟨b, k, none⟩) := by
 unfold GX at h; split at h
 ·exact ⟨_, _, rfl⟩
 ·cases h
section
variable {P : Program} {n : Nat} {Q : pU} {E : Nat → Value} {W : World} {ops : Array Oper} {rest : List Oper}
 {d j t : Nat} {want b : Bool} {v : Value} {ins : Go.Op} {ty : TypeId} {pos : String} {af : Array Edge} {A : Value → Prop} {x y : Operand}
theorem Wm (h : LW P n ops Q rest (nL E d (jP E x)) W) (a : d < n := by decide) : LW P n ops Q (⟨some d, .move x, ty, pos, af, none⟩ :: rest) E W := V (jN rfl) h a
theorem Wa (h : LW P n ops Q rest (nL E d (jP E x)) W) (a : d < n := by decide) : LW P n ops Q (⟨some d, .assign x, ty, pos, af, none⟩ :: rest) E W := V (nU rfl) h a
theorem Wh (b : jP E x = v) (h : LW P n ops Q rest (nL E d v) W) (a : d < n := by decide) : LW P n ops Q (⟨some d, .move x, ty, pos, af, none⟩ :: rest) E W := V (jN b) h a
theorem Wg (b : jP E x = v) (h : LW P n ops Q rest (nL E d v) W) (a : d < n := by decide) : LW P n ops Q (⟨some d, .assign x, ty, pos, af, none⟩ :: rest) E W := V (nU b) h a
theorem Wx {i : Nat} (a : Oy i (jP E x) = some v) (h : LW P n ops Q rest (nL E d v) W) (b : d < n := by decide) : LW P n ops Q (⟨some d, .extract x i, ty, pos, af, none⟩ :: rest) E W := by
 unfold Oy at a; split at a
 ·rename_i vs e; exact V (vk e a) h b
 ·cases a
theorem Wi {op : BinOp} {m l : TypeId} (c : KY op (jP E x) (jP E y) = some v) (h : LW P n ops Q rest (nL E d v) W) (j : d < n := by decide) : LW P n ops Q (⟨some d, .binOp op m x y l, ty, pos, af, none⟩ :: rest) E W := by
 unfold KY at c; split at c
 ·rename_i k a k' b g i
  split at c
  ·rename_i e; subst e; exact V (kL g i c) h j
  ·cases c
 ·cases c
theorem Wf {t : TypeId} {f off : Nat} (a : lp P t f off) (h : LW P n ops Q rest (nL E d (Py off (jP E x))) W) (hp : GX (jP E x) = true := by exact rfl) (c : d < n := by decide) : LW P n ops Q (⟨some d, .fieldAddr t x f, ty, pos, af, none⟩ :: rest) E W := by
 obtain ⟨b, k, e⟩ := Gn hp
 refine V (jM a e) ?_ c
 rw [e] at h; exact h
theorem Wn (h : LW P n ops Q rest (nL E d (jP E x)) W) (hp : GX (jP E x) = true := by exact rfl) (a : d < n := by decide) : LW P n ops Q (⟨some d, .nilCheck x, ty, pos, af, none⟩ :: rest) E W := by
 obtain ⟨b, k, e⟩ := Gn hp
 refine V (mH e) ?_ a
 rw [e] at h; exact h
theorem un (h : b = !want) (k : LW P n ops Q rest (nL E d undef) W) (c : (ops[j]?).bind (·.dst) = some t := by exact rfl) (a : E t = .bool b := by exact rfl) (i : t < n := by decide) (g : d < n := by decide) :
  LW P n ops Q (⟨some d, ins, ty, pos, af, some (j, want)⟩ :: rest) E W := Vn c (by rw [a, h]) k i g
theorem ug (h : b = want) (i : lV P E ⟨some d, ins, ty, pos, af, some (j, want)⟩ W v W) (k : LW P n ops Q rest (nL E d v) W) (c : (ops[j]?).bind (·.dst) = some t := by exact rfl) (a : E t = .bool b := by exact rfl) (l : t < n := by decide) (g : d < n := by decide) :
  LW P n ops Q (⟨some d, ins, ty, pos, af, some (j, want)⟩ :: rest) E W := Vg c (by rw [a, h]) i k l g
theorem rl (h : b = want) (k : mL P E ⟨some d, ins, ty, pos, af, some (j, want)⟩ W fun v W' => LW P n ops Q rest (nL E d v) W') (c : (ops[j]?).bind (·.dst) = some t := by exact rfl) (a : E t = .bool b := by exact rfl) (i : t < n := by decide) (g : d < n := by decide) :
  LW P n ops Q (⟨some d, ins, ty, pos, af, some (j, want)⟩ :: rest) E W := Lb c (by rw [a, h]) k i g
section
variable {dd : Bool} {F : Nat → Prop} {w : World} {μ : km} {L : List (Nat × Obj)} {T : TypeId} {a off : Nat} {cs : Array Value} {fr : Nat × Nat}
theorem VA {t : TypeId} (b : ST dd F w W μ L) (g : (a, Obj.cells cs T fr) ∈ L) (ys : List Value) (c : ∀ w, (isAgg t).run P w = .ok true w) (i : ∀ w, (sizeOf t).run P w = .ok ys.length w) (h : LW P n ops Q rest (nL E d (.agg ys.toArray)) W) (k : jP E x = .pointer (some ⟨a, off, none⟩) := by exact rfl) (l : (cs.toList.drop off).take ys.length = ys := by exact rfl) (j : d < n := by decide) : LW P n ops Q (⟨some d, .load t x, ty, pos, af, none⟩ :: rest) E W := V (jG k (jO b.has g ys l c i)) h j
theorem VB {t : TypeId} (b : ST dd F w W μ L) (g : (a, Obj.cells cs T fr) ∈ L) (j : jP E x = .pointer (some ⟨a, off, none⟩)) (k : cs[off]? = some v) (c : ∀ w, (isAgg t).run P w = .ok false w) (h : LW P n ops Q rest (nL E d v) W) (i : d < n := by decide) : LW P n ops Q (⟨some d, .load t x, ty, pos, af, none⟩ :: rest) E W := V (jG j (jS b.has g k c)) h i
end
section
variable {K : (Nat → Value) → World → Prop} {Q' : pU} {c : Code} {id id2 : Nat} {l : List Oper} {z : Code}
theorem sg (h : LW P n l.toArray (pS (fun E W => CW P n c Q E W) Q) l E W) : CW P n (.seq (.region id l.toArray false) c) Q E W := jX (jW h)
theorem ln (h : K E W) : LW P n ops (pS K Q) [] E W := ky (jQ h)
theorem lr (h : LW P n l.toArray (pS (fun E W => CW P n c Q E W) Q) l E W) : LW P n ops (pS (fun E W => CW P n (.seq (.region id l.toArray false) c) Q E W) Q') [] E W := ky (jQ (jX (jW h)))
theorem lS (h : LW P n l.toArray (pS (fun E W => CW P n c (pS (fun E W => CW P n z Q E W) Q) E W) (pS (fun E W => CW P n z Q E W) Q)) l E W) : LW P n ops (pS (fun E W => CW P n (.seq (.seq (.region id l.toArray false) c) z) Q E W) Q') [] E W := ky (jQ (jX (jX (jW h))))
theorem bg (h : LW P n l.toArray (pS (fun E W => CW P n c (vn id2 Q) E W) (vn id2 Q)) l E W) : CW P n (.block id2 (.seq (.region id l.toArray false) c)) Q E W := lQ (jX (jW h))
theorem kg (h : LW P n l.toArray (pS (fun E W => CW P n c Q E W) Q) l E W) : CW P n .skip (pS (fun E W => CW P n (.seq (.region id l.toArray false) c) Q E W) Q') E W := ll (jQ (jX (jW h)))
theorem kS (h : LW P n l.toArray (pS (fun E W => CW P n c (pS (fun E W => CW P n z Q E W) Q) E W) (pS (fun E W => CW P n z Q E W) Q)) l E W) : CW P n .skip (pS (fun E W => CW P n (.seq (.seq (.region id l.toArray false) c) z) Q E W) Q') E W := ll (jQ (jX (jX (jW h))))
theorem lt (h : Q .ret E W) : LW P n ops (pS (fun E W => CW P n .ret Q E W) Q') [] E W := ky (jQ (kB h))
theorem kn (h : K E W) : CW P n .skip (pS K Q) E W := ll (jQ h)
end
end
end Go.Proofs.YtmlncblocfcmiaaGreat
namespace Go.Proofs.YtmlncblocfcmiaaGreat
open Go.Sort Go.Proofs Go.Shelf
theorem Eo {g b : Nat} {o : Obj} : keys [(g, o)] b ↔ b = g := by
 constructor
 ·rintro ⟨a, h⟩
  simp at h
  exact h.1
 ·rintro rfl; exact ⟨o, by simp⟩
theorem AB (w : World) (g m : Nat) (f : Array Value → Array Value) (os : Array Obj) (b : Nat) (c : b < w.heap.size) :
  (Go.Sort.grow (mapBlock (Go.Sort.ahead w m) g f) os).heap[b]? = if g = b then w.heap[b]?.map (onCells f) else w.heap[b]? := by
 have a : b < (mapBlock (Go.Sort.ahead w m) g f).heap.size := by simp only [mapBlock, Go.Sort.ahead, Array.size_modify]; exact c
 rw [heap_grow_old _ _ a]
 simp only [mapBlock, Go.Sort.ahead, dQ]
theorem IE {w : World} {g m : Nat} {f : Array Value → Array Value} {os : Array Obj} {cs : Array Value} {T : TypeId} {fr : Nat × Nat} (c : w.heap[g]? = some (.cells cs T fr)) :
  sI true [(g, .cells cs T fr)] [(g, .cells (f cs) T fr)] w (Go.Sort.grow (mapBlock (Go.Sort.ahead w m) g f) os) := by
 have a : g < w.heap.size := (dy.1 c).1
 refine ⟨⟨rfl, rfl, rfl, ?_, ?_, fun b d i => ?_⟩, fun b o h => ?_, by simp⟩
 ·refine su.of ?_
  show w.drawn ≤ w.drawn + m
  omega
 ·show w.heap.size ≤ (w.heap.modify g (onCells f) ++ os).size
  simp
 ·rw [AB _ _ _ _ _ _ d, aY fun h => i (Eo.2 h.symm)]
 ·simp only [aQ, dF, fP, Prod.mk.injEq] at h
  obtain ⟨rfl, rfl⟩ := h
  refine ⟨?_, .inr (Eo.2 rfl)⟩
  rw [AB _ _ _ _ _ _ a, aZ rfl, c]
  rfl
theorem JX {w W : World} (h : Ex true w W) : ∃ q os, W = Go.Sort.grow (w.drewN q) os := by
 refine ⟨W.drawn - w.drawn, W.heap.extract w.heap.size W.heap.size, ?_⟩
 have d : W.heap = w.heap ++ W.heap.extract w.heap.size W.heap.size := by
  apply Array.ext_getElem?
  intro i
  rw [Array.getElem?_append]
  split
  ·rename_i g; exact h.mh i g
  ·rename_i g
   rw [Array.getElem?_extract]
   have k := h.size
   split
   ·rw [show w.heap.size + (i - w.heap.size) = i by omega]
   ·exact Array.getElem?_eq_none (by omega)
 obtain ⟨h1, l, m, n, o⟩ := W
 have a := h.os; have b := h.tape; have c := h.output; have j := h.drawn rfl
 simp only at a b c j d
 unfold Go.Sort.grow World.drewN
 simp only [World.mk.injEq]
 exact ⟨d, b, by omega, a, c⟩
theorem Jo {α : Type} [Inhabited α] {enc : α → List Value} {k : Nat} (hk : ∀ x, (enc x).length = k) (l : List α) (j : Nat) (a : j < l.length * k) :
  (l.map enc).flatten[j]? = some ((flatK enc k l.toArray)[j]!) := by
 have d : 0 < k := by
  cases k with
  | zero => simp at a
  | succ n => omega
 have h1 : j / k < l.length := (gp d).2 a
 rw [get_flatK _ _ _ _ (by simpa using a)]
 have g : l.toArray[j / k]! = l[j / k] := by
  rw [getElem!_pos l.toArray (j / k) (by simpa using h1)]; simp
 rw [g]
 have b : j % k < (enc l[j / k]).length := by rw [hk]; exact Nat.mod_lt _ d
 have c := uX hk l (j / k) l[j / k] (cW h1) (j % k) ((enc l[j / k])[j % k]) (cW b)
 rw [Nat.div_add_mod' j k] at c
 rw [c, getElem!_pos (enc l[j / k]) (j % k) b]
theorem GC {α : Type} [Inhabited α] {enc : α → List Value} {k : Nat} (hk : ∀ x, (enc x).length = k) {w : World} {g : Nat} {cs : Array Value} {T : TypeId} (b : w.heap[g]? = some (.cells cs T (0, 0))) (l : List α)
  (d : cs.toList.take (l.length * k) = (l.map enc).flatten) : HoldsK enc k w g 0 l.toArray := by
 intro j c
 have a : j < l.length * k := by simpa using c
 have h1 := Jo hk l j a
 rw [← d, fi, aZ a] at h1
 refine ⟨?_, ?_⟩
 ·simp only [World.cell?, b, fj]
  simpa using h1
 ·simp [World.frozen?, b]
theorem Iq {α : Type} [Inhabited α] {enc : α → List Value} {k : Nat} (hk : ∀ x, (enc x).length = k) {cs : Array Value} (l : List α) (b : l.length * k ≤ cs.size) :
  (putCells id 0 (flatK enc k l.toArray) cs).toList.take (l.length * k) = (l.map enc).flatten := by
 apply ey
 intro j
 rw [fi]
 split
 ·rename_i a
  rw [Jo hk l j a]
  simp only [putCells, dI, Array.getElem?_mapIdx, size_flatK, dK]
  rw [Array.getElem?_eq_getElem (by omega)]
  simp [a]
 ·rename_i a
  rw [fy (by rw [pt hk]; omega)]
theorem GI (enc : Value → Value) (o : Nat) (d c : Array Value) : (putCells enc o d c).size = c.size := by simp [putCells]
section
variable {α : Type} {P : Program} {ρ : Ren}
theorem Oo {l : List α} {cf : α × α → Option Int} (h : CR cf l) : SWO (ltOf fun (x y : {x // x ∈ l}) => (cf (x.1, y.1)).getD 0) ∧
  (∀ x y : {x // x ∈ l}, ltOf (fun (x y : {x // x ∈ l}) => (cf (x.1, y.1)).getD 0) x y = tb cf x.1 y.1) := by
 have e : ∀ x y : {x // x ∈ l}, ltOf (fun (x y : {x // x ∈ l}) => (cf (x.1, y.1)).getD 0) x y = tb cf x.1 y.1 := fun x y => by
  obtain ⟨c, g⟩ := h.is x.1 x.2 y.1 y.2
  simp [ltOf, tb, g]
 refine ⟨⟨fun x => ?_, fun x y z => ?_, fun x y z => ?_⟩, e⟩
 ·rw [e]; exact h.irrefl _ x.2
 ·rw [e, e, e]; exact h.trans _ x.2 _ y.2 _ z.2
 ·rw [e, e, e]
  intro h1 b
  cases a : tb cf x.1 z.1 with
  | false => rfl
  | true =>
   cases d : tb cf y.1 x.1 with
   | true =>
    have := h.trans _ y.2 _ x.2 _ z.2 d a
    rw [b] at this; cases this
   | false =>
    have := h.total _ x.2 _ y.2 h1 d
    rw [this, b] at a; cases a
theorem DM (L : SlLaysF0.n6 P ρ) (k : Nat) (aE : ∀ w, (isAgg (ρ.t 24)).run P w = .ok true w) (zE : ∀ w, (Go.sizeOf (ρ.t 24)).run P w = .ok k w) {e : TypeId} (enc : α → List Value) (hk : ∀ x, (enc x).length = k) (h1 : ∀ x, ∀ u ∈ enc x, u.oneCell' = true) {v fv : Value} {l r : List α} {R : List (Nat × Obj)} {cf : α × α → Option Int} {w : World} {μ0 : km} (hH : Cm (R ++ []) w) (A : kf μ0 (ta w (R ++ []))) (W : kk e enc k v l R) (hc : Pe P fv μ0 (fun (x : α × α) => [(.agg (enc x.1).toArray), (.agg (enc x.2).toArray)]) (fun (r : Int) => (.int .i64 r)) cf) (hm : wE cf l = some r) :
  lC true P (ρ.f 6) [v, fv] w (R ++ []) (fun u L1 _ => ∃ (S : List (Nat × Obj)), u = (.tuple #[]) ∧ L1 = (S ++ []) ∧ kk e enc k v r S) := by
 obtain ⟨ok, rfl⟩ := Fj hm
 rw [bP] at hH A ⊢
 rcases ek l.length with h0 | i
 ·have hl : l = [] := aU h0
  subst hl
  have Y : sn cf ([] : List α) = [] := by simp [sn]
  rw [Y]
  obtain ⟨p, c, rfl⟩ : ∃ p c, v = .slice p 0 c := by
   rcases W with ⟨rfl, _, _⟩ | ⟨g, cap, j, rfl, _⟩
   ·exact ⟨_, _, rfl⟩
   ·exact ⟨_, _, rfl⟩
  refine dC (AnyF.slices_SortFunc_none L p c fv w) fun x w' ⟨hx, hw⟩ => ?_
  subst hx hw
  refine ⟨_, R, rfl, ⟨⟨rfl, rfl, rfl, su.of (aV _), aV _, fun _ _ _ => rfl⟩, fun b o h => ⟨hH b o h, .inr ⟨o, h⟩⟩, ?_⟩, R, rfl, (bP R).symm, W⟩
  rcases W with ⟨_, _, rfl⟩ | ⟨g, cap, j, _, rfl, _⟩ <;> simp
 ·rcases W with ⟨_, rfl, _⟩ | ⟨g, cap, j, rfl, rfl, a7, a6, J, ad⟩
  ·simp at i
  have hg : w.heap[g]? = some (.cells j e (0, 0)) := hH g _ (by simp)
  have a8 : g < w.heap.size := (dy.1 hg).1
  haveI : Inhabited {x // x ∈ l} := ⟨⟨l[0], List.getElem_mem i⟩⟩
  obtain ⟨gg, caps, rfl, M, q⟩ := hc
  obtain ⟨hO, O⟩ := Oo ok
  have D : l.attach.toArray.size = l.length := by simp
  have aa : l.attach.map (fun x => enc x.1) = l.map enc := by
   rw [show (fun x : {x // x ∈ l} => enc x.1) = enc ∘ Subtype.val from rfl, ← er, List.attach_map_subtype_val]
  have Z : HoldsK (fun x : {x // x ∈ l} => enc x.1) k w g 0 l.attach.toArray := GC (fun x => hk x.1) hg l.attach (by rw [aa, List.length_attach, ad])
  have I : CmpLays P gg caps (fun x : {x // x ∈ l} => enc x.1) k (fun x y => (cf (x.1, y.1)).getD 0) g 0 l.attach.toArray.size w := by
   intro m os dk af x y
   obtain ⟨c, G⟩ := ok.is x.1 x.2 y.1 y.2
   have U : kf μ0 (hp (sortWorldK (fun x : {x // x ∈ l} => enc x.1) k w g 0 m dk os)) := fun b o hb => by
    have z := A b o hb
    unfold ta at z
    split at z
    ·cases z
    ·rename_i hn
     have a1 : b < w.heap.size := (dy.1 z).1
     show (Go.Sort.grow (mapBlock (Go.Sort.ahead w m) g _) os).heap[b]? = _
     rw [AB _ _ _ _ _ _ a1, aY fun h => hn (Eo.2 h.symm)]
     exact z
   have h3 := q (sortWorldK (fun x : {x // x ∈ l} => enc x.1) k w g 0 m dk os) (x.1, y.1) c U G
   have ea : ([Value.agg (enc x.1).toArray, Value.agg (enc y.1).toArray] ++ caps.toList).toArray = #[Value.agg (enc x.1).toArray, Value.agg (enc y.1).toArray] ++ caps := by
    apply Array.ext'; simp
   rw [← ea]
   exact dC h3 fun u W' hu => ⟨by rw [hu.1]; show _ = Ending.returned (.int .i64 ((cf (x.1, y.1)).getD 0)); rw [G]; rfl, JX hu.2⟩
  have hT : ∀ x y : {x // x ∈ l}, ltOf (fun (x y : {x // x ∈ l}) => (cf (x.1, y.1)).getD 0) x y = false → ltOf (fun (x y : {x // x ∈ l}) => (cf (x.1, y.1)).getD 0) y x = false → x = y := fun x y a b => by
   rw [O] at a b
   exact Subtype.ext (ok.total _ x.2 _ y.2 a b)
  have d := AnyQ.slices_SortFunc_total L k aE zE (fun x : {x // x ∈ l} => enc x.1) (fun x => hk x.1) (fun x => h1 x.1) (fun x y => (cf (x.1, y.1)).getD 0) hO gg caps g 0 cap l.attach.toArray w M I Z a8 (by rw [D]; exact ok.short) hT
  rw [D] at d
  refine dC d fun u w' ⟨hu, n, os, hw⟩ => ?_
  subst hu
  generalize Y : l.attach.toArray.toList.mergeSort (fun x y => !ltOf (fun (x y : {x // x ∈ l}) => (cf (x.1, y.1)).getD 0) y x) = s at hw
  have ab : s.map Subtype.val = sn cf l := by
   rw [← Y, gV (s := fun x y => !tb cf y x) (fun a _ b _ => by rw [O])]
   simp [sn]
  have T : s.length = l.length := by rw [← Y, List.length_mergeSort]; simp
  have Q : (sn cf l).length = l.length := by simp [sn, List.length_mergeSort]
  have F := IE (w := w) (m := n) (f := putCells id 0 (flatK (fun x : {x // x ∈ l} => enc x.1) k s.toArray)) (os := os) hg
  have ae : w' = Go.Sort.grow (mapBlock (Go.Sort.ahead w n) g (putCells id 0 (flatK (fun x : {x // x ∈ l} => enc x.1) k s.toArray))) os := hw
  rw [← ae] at F
  refine ⟨_, _, rfl, F, _, rfl, (bP _).symm, .inr ⟨g, cap, _, by rw [Q], rfl, by omega, a6, by rw [GI, J], ?_⟩⟩
  rw [Q, ← T, Iq (fun x => hk x.1) s (by rw [T, J]; exact cO k a7), ← ab, er]
  rfl
end
end Go.Proofs.YtmlncblocfcmiaaGreat
namespace Go.Proofs.YtmlncblocfcmiaaGreat
open Go.Sort Go.Proofs Go.Shelf
theorem Cu (b : ByteArray) : b.toList = b.data.toList := by rw [fe]
theorem Pd (l : List ByteArray) : (l.map Bs).flatten = l.map Value.string := by
 induction l with
 | nil => rfl
 | cons x l ih => simp only [bH, bK, ih]; rfl
theorem Mj (l : List ByteArray) : (tL l).map (fun b => b.data.toList) = (l.map (fun b => b.data.toList)).mergeSort (fun x y => decide (x ≤ y)) := by
 unfold tL
 refine gV fun a _ b _ => ?_
 unfold pV
 rw [bytesLess_eq, Cu, Cu]
 by_cases h : a.data.toList ≤ b.data.toList
 ·have c : ¬ b.data.toList < a.data.toList := List.not_lt.2 h
  simp [h, c]
 ·have c : b.data.toList < a.data.toList := by
   cases Decidable.em (b.data.toList < a.data.toList) with
   | inl d => exact d
   | inr d => exact absurd (List.not_lt.1 d) h
  simp [h, c]
end Go.Proofs.YtmlncblocfcmiaaGreat
namespace Go.Proofs.YtmlncblocfcmiaaGreat
open Go.WideElems Go.WideShapes Go.Sort Go.Proofs Go.Shelf
theorem Ir {β : Type} {vf : β → Value} {P : Program} {kt : TypeId} (y : P.underlying kt = some .string) {l : List (ByteArray × β)} {es : Array MapEntry} {clock : Nat} (h : tz Value.string vf l es clock) (u : (l.map (·.1)).Nodup) (w : ∀ p ∈ l, p.1.size ≤ maxLen) (t : l.length ≤ maxLen) {W : World} {b : Nat} (r : W.heap[b]? = some (.map es clock)) : ∃ D : DataW Unit, W.ownsMap P kt (fun _ => some (.lit (.bool true), [])) b es.size D ∧ (strKeys D).Perm (l.map (fun p => p.1.data.toList)) ∧ Maps.size D = l.length := by
 have c := h.keys
 have m : ∀ x ∈ es.toList, ∃ s : ByteArray, x.key = .string s ∧ s.size ≤ maxLen := fun x i => by
  have h1 : x.key ∈ es.toList.map (·.key) := bB.2 ⟨x, i, rfl⟩
  rw [c] at h1
  obtain ⟨s, g, j⟩ := bB.1 h1
  obtain ⟨p, o, q⟩ := bB.1 g
  exact ⟨s, j.symm, by rw [← q]; exact w p o⟩
 have d : ∀ x ∈ es.toList, ∃ s : ByteArray, x.key = .string s ∧ Go.WideElems.rd (H := Unit) P kt (fun _ => some (.lit (.bool true), [])) x = some (.string s.data.toList, .lit (.bool true)) := fun x i => by
  obtain ⟨s, h1, g⟩ := m x i
  refine ⟨s, h1, ?_⟩
  simp [Go.WideElems.rd, keyOf, y, mapKey, h1, g]
 refine ⟨_, ⟨es, clock, r, ⟨by rw [h.length]; exact t, ⟨h.lt, ?_, ?_⟩, fun x i => ?_⟩, aV _, rfl⟩, ?_, ?_⟩
 ·have := h.born
  rw [List.Nodup, eX]
  exact this.imp (fun {a b} h => by omega)
 ·rw [c]
  rw [List.Nodup, eX]
  exact u.imp (fun {a b} k e => k (by injection e))
 ·obtain ⟨s, _, g⟩ := d x i
  exact ⟨_, g⟩
 ·have h1 := (sorted_perm (es.toList.map (Go.WideElems.rg (H := Unit) P kt (fun _ => some (.lit (.bool true), []))))).map (fun p => strOf p.1)
  refine List.Perm.trans h1 ?_
  have e : (es.toList.map (Go.WideElems.rg (H := Unit) P kt (fun _ => some (.lit (.bool true), [])))).map (fun p => strOf p.1) = l.map (fun p => p.1.data.toList) := by
   have n : (es.toList.map (Go.WideElems.rg (H := Unit) P kt (fun _ => some (.lit (.bool true), [])))).map (fun p => strOf p.1) = (es.toList.map (·.key)).map (fun v => match v with | .string s => s.data.toList | _ => []) := by
    rw [er, er]
    refine gK fun x i => ?_
    obtain ⟨s, g, j⟩ := d x i
    simp [Go.WideElems.rg, j, g, strOf]
   rw [n, c, er, er]
   rfl
  rw [e]
 ·have h1 := (sorted_perm (es.toList.map (Go.WideElems.rg (H := Unit) P kt (fun _ => some (.lit (.bool true), []))))).length_eq
  show (List.foldr DataW.insert [] _).length = _
  rw [h1, cU, ← h.length]
  simp
theorem GM {l : List ByteArray} {g : List (List UInt8)} (h : g.Perm (l.map fun b => b.data.toList)) : g.mergeSort (fun x y => decide (x ≤ y)) = (tL l).map (fun b => b.data.toList) := by
 rw [Mj]
 have le : ∀ a b c : List UInt8, decide (a ≤ b) = true → decide (b ≤ c) = true → decide (a ≤ c) = true := fun a b c h1 d => by
  simp only [cI] at *
  exact List.le_trans h1 d
 have tot : ∀ a b : List UInt8, (decide (a ≤ b) || decide (b ≤ a)) = true := fun a b => by
  simp only [ft, cI]
  exact List.le_total a b
 refine List.Perm.eq_of_pairwise (le := fun a b => decide (a ≤ b) = true) (fun a b _ _ h1 d => List.le_antisymm (by simpa using h1) (by simpa using d)) (fX le tot _) (fX le tot _) ?_
 exact (gL _ _).trans (h.trans (gL _ _).symm)
section
variable {P : Program} {ρk ρt ρm : Ren}
theorem It (LK : SlLaysZ.n7 P ρk) (LT : SlLaysZ.n6 P ρt) (LM : SlLaysM.n6 P ρm) (h9 : ρt.f 9 = ρm.f 6) (hK : P.underlying (ρk.t 26) = some .string) (eg : ∀ args w, (callFunc (ρk.f 10) args).run P w = .ok (.enter (ρk.f 10) args) w) (es : ∀ args w, (callFunc (ρt.f 9) args).run P w = .ok (.enter (ρt.f 9) args) w) {β : Type} {vf : β → Value} {l : List (ByteArray × β)} {b : Nat} {mv : Value} {t : TypeId} {W : World} {r : List ByteArray} (u : W.heap[b]? = some (.cells #[mv] t (0, 0))) (hm : uL Value.string vf (hp W) mv l) (hk : ES l = some r) :
  mw false P (ρt.f 6) [.func (.func (ρk.f 10)) #[] #[.pointer (some ⟨b, 0, none⟩)]] W (ρt.t 26) Bs 1 r := by
 unfold ES at hk
 split at hk
 case isFalse => cases hk
 rename_i hc
 obtain ⟨T, U, Y⟩ := hc
 cases hk
 have i : b < W.heap.size := (dy.1 u).1
 have c : W.cell? ⟨b, 0, none⟩ = some mv := by simp [World.cell?, u]
 have q : AnyZ.SortsIn P ρt Fence.wide 4 :=
  ⟨fun M off cap d W hH hblk s => callsIn_wide.2 (by rw [h9]; exact AnyM.slices_Sort_string LM M off cap d W hH hblk s), fun p cap W => callsIn_wide.2 (by rw [h9]; exact AnyM.slices_Sort_string_none LM p cap W)⟩
 have I : SeqGives Fence.wide 2 P (ρk.f 10) #[.pointer (some ⟨b, 0, none⟩)] encStr (fun d => d.Perm ((l.map (·.1)).map fun b => b.data.toList)) l.length W := by
  rcases hm with ⟨rfl, rfl⟩ | ⟨m, es, clock, rfl, a6, A⟩
  ·have := AnyZ.keys_gives_nil (ρ := ρk) { LK with } Fence.wide 2 trivial rfl b W i c
   intro l' J W' Q O R L
   refine CallsIn.mono (this l' J W' Q O R L) ?_
   rintro e w' ⟨hv, d, rfl, hj⟩
   exact ⟨hv, [], bT _, hj⟩
  ·obtain ⟨D, F, n, s⟩ := Ir hK A T U (by unfold maxLen; omega) a6
   have := AnyZ.keys_gives (ρ := ρk) { LK with } Fence.wide 2 trivial rfl (by omega) b m es.size D W i c F
   intro l' J W' Q O R L
   refine CallsIn.mono (this l' J W' Q O (by rw [s]; exact R) L) ?_
   rintro e w' ⟨hv, d, hp, hj⟩
   refine ⟨hv, d, ?_, hj⟩
   rw [er]
   exact hp.trans n
 have cS := AnyZ.sorted_in LT Fence.wide 5 trivial trivial trivial trivial rfl (by omega) q es (ρk.f 10) #[.pointer (some ⟨b, 0, none⟩)] trivial eg _ l.length (by unfold maxLen; omega) Y W I
 refine dC (callsIn_wide.1 cS) ?_
 rintro e w' ⟨v, d, rfl, hS, G, a8, a⟩
 have hs := GM hS
 have hlen : d.length = (tL (l.map (·.1))).length := by
  have := aX List.length hs
  simpa using this
 have k : (d.mergeSort (fun x y => decide (x ≤ y))).map encStr = ((tL (l.map (·.1))).map Bs).flatten := by
  rw [hs, Pd, er]
  refine gK (fun x _ => ?_)
  simp only [Function.comp, encStr]
 rcases G.2 with ⟨rfl, L⟩ | ⟨g, cap, z, rfl, j, hg, aa, Z, a1, a7⟩
 ·have : tL (l.map (·.1)) = [] := aU (by omega)
  rw [this]
  exact ⟨_, [], rfl, sI.GV ⟨a.os, a.tape, a.output, fun h => (by cases h), a.size, fun b u => a.block b u⟩ (fun _ _ h => by cases h) (by simp), kk.nil _ _ _⟩
 ·refine ⟨_, [(g, .cells z (ρt.t 26) (0, 0))], rfl, sI.GV ⟨a.os, a.tape, a.output, fun h => (by cases h), a.size, fun b u => a.block b u⟩ (fun b o h => by simp at h; obtain ⟨rfl, rfl⟩ := h; exact ⟨hg, j⟩) (by simp), .inr ⟨g, cap, z, by rw [hlen], rfl, by omega, Z, a1, ?_⟩⟩
  rw [← hlen, a7, k]
end
end Go.Proofs.YtmlncblocfcmiaaGreat
namespace Go.Proofs.YtmlncblocfcmiaaGreat
def fh := @Tryz.underlying9
def fu := @Tryz.zeroValue9
def fF := @Tryz.underlying0
def fT := @Tryz.zeroValue0
def gh := @Tryz.sizeOf9
def gv := @Tryz.underlying4
def gB := @Tryz.isAgg9
def gI := @Tryz.zeroValue4
def gO := @Tryz.sizeOf0
def gW := @Tryz.underlying353
def gX := @Tryz.underlying382
def gY := @Tryz.underlying383
def gZ := @Tryz.underlying389
def ib := @Tryz.underlying309
def ic := @Tryz.underlying419
def ie := @Tryz.underlying423
def ig := @Tryz.underlying446
def ij := @Tryz.underlying274
def iA := @Tryz.isAgg0
def iC := @Tryz.zeroValue353
def iD := @Tryz.zeroValue382
def iE := @Tryz.zeroValue383
def iF := @Tryz.underlying39
def iG := @Tryz.zeroValue389
def iH := @Tryz.zeroValue309
def iI := @Tryz.zeroValue419
def iJ := @Tryz.zeroValue423
def iK := @Tryz.zeroValue446
def iL := @Tryz.zeroValue274
def iM := @Tryz.underlying82
def iZ := @Tryz.underlying3
def ja := @Tryz.underlying5
def jb := @Tryz.zeroValue39
def jc := @Tryz.zeroValue82
def jj := @Tryz.sizeOf4
def jq := @Tryz.zeroValue3
def jr := @Tryz.zeroValue5
def ju := @Tryz.isAgg4
def LF : Go.Shelf.Ren := ⟨fun | 6 => 230 | 15 => 322 | 14 => 321 | 28 => 367 | 29 => 368 | 20 => 359 | 21 => 360 | 22 => 361 | 23 => 362 | 24 => 363 | 25 => 364 | 26 => 365 | 27 => 366 | 46 => 410 | 47 => 411 | 48 => 412 | 49 => 413 | 50 => 414 | 57 => 449 | n => n, fun | 22 => 22 | 24 => 53 | 25 => 194 | 3 => 3 | 39 => 353 | 0 => 0 | 53 => 389 | 55 => 309 | 4 => 4 | 46 => 383 | 45 => 382 | 50 => 39 | 5 => 5 | 9 => 9 | 66 => 419 | 70 => 423 | 76 => 446 | 77 => 274 | n => n, fun | n => n⟩
theorem O5 : Go.Proofs.SlLaysF0.n6 Tryz.prog LF := {
 mixed := by kernel_rfl,
 f6 := ⟨Tryz.f230.name, by decide, Tryz.func230.trans (aX some (by kernel_rfl))⟩,
 f14 := ⟨Tryz.f321.name, by decide, Tryz.func321.trans (aX some (by kernel_rfl))⟩,
 f15 := Tryz.func322.trans (aX some (by kernel_rfl)),
 f20 := ⟨Tryz.f359.name, by decide, Tryz.func359.trans (aX some (by kernel_rfl))⟩,
 f21 := ⟨Tryz.f360.name, by decide, Tryz.func360.trans (aX some (by kernel_rfl))⟩,
 f22 := ⟨Tryz.f361.name, by decide, Tryz.func361.trans (aX some (by kernel_rfl))⟩,
 f23 := ⟨Tryz.f362.name, by decide, Tryz.func362.trans (aX some (by kernel_rfl))⟩,
 f24 := ⟨Tryz.f363.name, by decide, Tryz.func363.trans (aX some (by kernel_rfl))⟩,
 f25 := ⟨Tryz.f364.name, by decide, Tryz.func364.trans (aX some (by kernel_rfl))⟩,
 f26 := ⟨Tryz.f365.name, by decide, Tryz.func365.trans (aX some (by kernel_rfl))⟩,
 f27 := ⟨Tryz.f366.name, by decide, Tryz.func366.trans (aX some (by kernel_rfl))⟩,
 f28 := Tryz.func367.trans (aX some (by kernel_rfl)),
 f29 := Tryz.func368.trans (aX some (by kernel_rfl)),
 f46 := ⟨Tryz.f410.name, by decide, Tryz.func410.trans (aX some (by kernel_rfl))⟩,
 f47 := Tryz.func411.trans (aX some (by kernel_rfl)),
 f48 := Tryz.func412.trans (aX some (by kernel_rfl)),
 f49 := ⟨Tryz.f413.name, by decide, Tryz.func413.trans (aX some (by kernel_rfl))⟩,
 f50 := ⟨Tryz.f414.name, by decide, Tryz.func414.trans (aX some (by kernel_rfl))⟩,
 f57 := ⟨Tryz.f449.name, by decide, Tryz.func449.trans (aX some (by kernel_rfl))⟩,
 t0 := fF,
 a0 := iA,
 z0 := gO,
 v0 := fT,
 t3 := iZ,
 a3 := Tryz.isAgg3,
 z3 := Tryz.sizeOf3,
 v3 := jq,
 t4 := gv,
 a4 := ju,
 z4 := jj,
 v4 := gI,
 t5 := ja,
 a5 := Tryz.isAgg5,
 z5 := Tryz.sizeOf5,
 v5 := jr,
 t9 := fh,
 a9 := gB,
 z9 := gh,
 v9 := fu,
 t22 := Tryz.underlying22,
 a22 := Tryz.isAgg22,
 z22 := Tryz.sizeOf22,
 v22 := Tryz.zeroValue22,
 t25 := Tryz.underlying194,
 a25 := Tryz.isAgg194,
 z25 := Tryz.sizeOf194,
 v25 := Tryz.zeroValue194,
 t39 := gW,
 a39 := Tryz.isAgg353,
 z39 := Tryz.sizeOf353,
 v39 := iC,
 t45 := gX,
 a45 := Tryz.isAgg382,
 z45 := Tryz.sizeOf382,
 v45 := iD,
 t46 := gY,
 a46 := Tryz.isAgg383,
 z46 := Tryz.sizeOf383,
 v46 := iE,
 t50 := iF,
 a50 := Tryz.isAgg39,
 z50 := Tryz.sizeOf39,
 v50 := jb,
 t53 := gZ,
 a53 := Tryz.isAgg389,
 z53 := Tryz.sizeOf389,
 v53 := iG,
 t55 := ib,
 a55 := Tryz.isAgg309,
 z55 := Tryz.sizeOf309,
 v55 := iH,
 t66 := ic,
 a66 := Tryz.isAgg419,
 z66 := Tryz.sizeOf419,
 v66 := iI,
 t70 := ie,
 a70 := Tryz.isAgg423,
 z70 := Tryz.sizeOf423,
 v70 := iJ,
 t76 := ig,
 a76 := Tryz.isAgg446,
 z76 := Tryz.sizeOf446,
 v76 := iK,
 t77 := ij,
 a77 := Tryz.isAgg274,
 z77 := Tryz.sizeOf274,
 v77 := iL}
def KJ : Go.Shelf.Ren := ⟨fun | 6 => 357 | 15 => 322 | 14 => 409 | 28 => 367 | 29 => 368 | 20 => 441 | 21 => 442 | 22 => 443 | 23 => 444 | 24 => 445 | 25 => 446 | 26 => 447 | 27 => 448 | 46 => 460 | 47 => 411 | 48 => 412 | 49 => 461 | 50 => 462 | 57 => 466 | n => n, fun | 22 => 34 | 24 => 28 | 25 => 180 | 3 => 3 | 39 => 353 | 0 => 0 | 53 => 389 | 55 => 309 | 4 => 4 | 46 => 383 | 45 => 382 | 50 => 39 | 5 => 5 | 9 => 9 | 66 => 419 | 70 => 423 | 76 => 446 | 77 => 274 | n => n, fun | n => n⟩
theorem PA : Go.Proofs.SlLaysF0.n6 Tryz.prog KJ := {
 mixed := by kernel_rfl,
 f6 := ⟨Tryz.f357.name, by decide, Tryz.func357.trans (aX some (by kernel_rfl))⟩,
 f14 := ⟨Tryz.f409.name, by decide, Tryz.func409.trans (aX some (by kernel_rfl))⟩,
 f15 := Tryz.func322.trans (aX some (by kernel_rfl)),
 f20 := ⟨Tryz.f441.name, by decide, Tryz.func441.trans (aX some (by kernel_rfl))⟩,
 f21 := ⟨Tryz.f442.name, by decide, Tryz.func442.trans (aX some (by kernel_rfl))⟩,
 f22 := ⟨Tryz.f443.name, by decide, Tryz.func443.trans (aX some (by kernel_rfl))⟩,
 f23 := ⟨Tryz.f444.name, by decide, Tryz.func444.trans (aX some (by kernel_rfl))⟩,
 f24 := ⟨Tryz.f445.name, by decide, Tryz.func445.trans (aX some (by kernel_rfl))⟩,
 f25 := ⟨Tryz.f446.name, by decide, Tryz.func446.trans (aX some (by kernel_rfl))⟩,
 f26 := ⟨Tryz.f447.name, by decide, Tryz.func447.trans (aX some (by kernel_rfl))⟩,
 f27 := ⟨Tryz.f448.name, by decide, Tryz.func448.trans (aX some (by kernel_rfl))⟩,
 f28 := Tryz.func367.trans (aX some (by kernel_rfl)),
 f29 := Tryz.func368.trans (aX some (by kernel_rfl)),
 f46 := ⟨Tryz.f460.name, by decide, Tryz.func460.trans (aX some (by kernel_rfl))⟩,
 f47 := Tryz.func411.trans (aX some (by kernel_rfl)),
 f48 := Tryz.func412.trans (aX some (by kernel_rfl)),
 f49 := ⟨Tryz.f461.name, by decide, Tryz.func461.trans (aX some (by kernel_rfl))⟩,
 f50 := ⟨Tryz.f462.name, by decide, Tryz.func462.trans (aX some (by kernel_rfl))⟩,
 f57 := ⟨Tryz.f466.name, by decide, Tryz.func466.trans (aX some (by kernel_rfl))⟩,
 t0 := fF,
 a0 := iA,
 z0 := gO,
 v0 := fT,
 t3 := iZ,
 a3 := Tryz.isAgg3,
 z3 := Tryz.sizeOf3,
 v3 := jq,
 t4 := gv,
 a4 := ju,
 z4 := jj,
 v4 := gI,
 t5 := ja,
 a5 := Tryz.isAgg5,
 z5 := Tryz.sizeOf5,
 v5 := jr,
 t9 := fh,
 a9 := gB,
 z9 := gh,
 v9 := fu,
 t22 := Tryz.underlying34,
 a22 := Tryz.isAgg34,
 z22 := Tryz.sizeOf34,
 v22 := Tryz.zeroValue34,
 t25 := Tryz.underlying180,
 a25 := Tryz.isAgg180,
 z25 := Tryz.sizeOf180,
 v25 := Tryz.zeroValue180,
 t39 := gW,
 a39 := Tryz.isAgg353,
 z39 := Tryz.sizeOf353,
 v39 := iC,
 t45 := gX,
 a45 := Tryz.isAgg382,
 z45 := Tryz.sizeOf382,
 v45 := iD,
 t46 := gY,
 a46 := Tryz.isAgg383,
 z46 := Tryz.sizeOf383,
 v46 := iE,
 t50 := iF,
 a50 := Tryz.isAgg39,
 z50 := Tryz.sizeOf39,
 v50 := jb,
 t53 := gZ,
 a53 := Tryz.isAgg389,
 z53 := Tryz.sizeOf389,
 v53 := iG,
 t55 := ib,
 a55 := Tryz.isAgg309,
 z55 := Tryz.sizeOf309,
 v55 := iH,
 t66 := ic,
 a66 := Tryz.isAgg419,
 z66 := Tryz.sizeOf419,
 v66 := iI,
 t70 := ie,
 a70 := Tryz.isAgg423,
 z70 := Tryz.sizeOf423,
 v70 := iJ,
 t76 := ig,
 a76 := Tryz.isAgg446,
 z76 := Tryz.sizeOf446,
 v76 := iK,
 t77 := ij,
 a77 := Tryz.isAgg274,
 z77 := Tryz.sizeOf274,
 v77 := iL}
def PC : Go.Shelf.Ren := ⟨fun | 6 => 273 | 8 => 322 | 9 => 343 | 19 => 367 | 20 => 368 | 21 => 396 | 22 => 397 | 23 => 398 | 24 => 399 | 25 => 400 | 26 => 401 | 27 => 402 | 28 => 403 | 29 => 404 | 36 => 426 | 31 => 411 | 32 => 412 | 37 => 427 | 38 => 428 | 39 => 429 | 41 => 454 | n => n, fun | 27 => 82 | 29 => 9 | 3 => 3 | 32 => 353 | 26 => 82 | 0 => 0 | 44 => 389 | 46 => 309 | 4 => 4 | 36 => 383 | 35 => 382 | 41 => 39 | 5 => 5 | 9 => 9 | 53 => 419 | 57 => 423 | 63 => 446 | 64 => 274 | n => n, fun | n => n⟩
theorem Pk : Go.Proofs.SlLaysM.n6 Tryz.prog PC := {
 mixed := by kernel_rfl,
 f6 := ⟨Tryz.f273.name, by decide, Tryz.func273.trans (aX some (by kernel_rfl))⟩,
 f8 := Tryz.func322.trans (aX some (by kernel_rfl)),
 f9 := ⟨Tryz.f343.name, by decide, Tryz.func343.trans (aX some (by kernel_rfl))⟩,
 f19 := Tryz.func367.trans (aX some (by kernel_rfl)),
 f20 := Tryz.func368.trans (aX some (by kernel_rfl)),
 f21 := ⟨Tryz.f396.name, by decide, Tryz.func396.trans (aX some (by kernel_rfl))⟩,
 f22 := ⟨Tryz.f397.name, by decide, Tryz.func397.trans (aX some (by kernel_rfl))⟩,
 f23 := ⟨Tryz.f398.name, by decide, Tryz.func398.trans (aX some (by kernel_rfl))⟩,
 f24 := ⟨Tryz.f399.name, by decide, Tryz.func399.trans (aX some (by kernel_rfl))⟩,
 f25 := ⟨Tryz.f400.name, by decide, Tryz.func400.trans (aX some (by kernel_rfl))⟩,
 f26 := ⟨Tryz.f401.name, by decide, Tryz.func401.trans (aX some (by kernel_rfl))⟩,
 f27 := ⟨Tryz.f402.name, by decide, Tryz.func402.trans (aX some (by kernel_rfl))⟩,
 f28 := ⟨Tryz.f403.name, by decide, Tryz.func403.trans (aX some (by kernel_rfl))⟩,
 f29 := ⟨Tryz.f404.name, by decide, Tryz.func404.trans (aX some (by kernel_rfl))⟩,
 f31 := Tryz.func411.trans (aX some (by kernel_rfl)),
 f32 := Tryz.func412.trans (aX some (by kernel_rfl)),
 f36 := ⟨Tryz.f426.name, by decide, Tryz.func426.trans (aX some (by kernel_rfl))⟩,
 f37 := ⟨Tryz.f427.name, by decide, Tryz.func427.trans (aX some (by kernel_rfl))⟩,
 f38 := ⟨Tryz.f428.name, by decide, Tryz.func428.trans (aX some (by kernel_rfl))⟩,
 f39 := ⟨Tryz.f429.name, by decide, Tryz.func429.trans (aX some (by kernel_rfl))⟩,
 f41 := ⟨Tryz.f454.name, by decide, Tryz.func454.trans (aX some (by kernel_rfl))⟩,
 t0 := fF,
 a0 := iA,
 z0 := gO,
 v0 := fT,
 t3 := iZ,
 a3 := Tryz.isAgg3,
 z3 := Tryz.sizeOf3,
 v3 := jq,
 t4 := gv,
 a4 := ju,
 z4 := jj,
 v4 := gI,
 t5 := ja,
 a5 := Tryz.isAgg5,
 z5 := Tryz.sizeOf5,
 v5 := jr,
 t9 := fh,
 a9 := gB,
 z9 := gh,
 v9 := fu,
 t26 := iM,
 a26 := Tryz.isAgg82,
 z26 := Tryz.sizeOf82,
 v26 := jc,
 t27 := iM,
 a27 := Tryz.isAgg82,
 z27 := Tryz.sizeOf82,
 v27 := jc,
 t29 := fh,
 a29 := gB,
 z29 := gh,
 v29 := fu,
 t32 := gW,
 a32 := Tryz.isAgg353,
 z32 := Tryz.sizeOf353,
 v32 := iC,
 t35 := gX,
 a35 := Tryz.isAgg382,
 z35 := Tryz.sizeOf382,
 v35 := iD,
 t36 := gY,
 a36 := Tryz.isAgg383,
 z36 := Tryz.sizeOf383,
 v36 := iE,
 t41 := iF,
 a41 := Tryz.isAgg39,
 z41 := Tryz.sizeOf39,
 v41 := jb,
 t44 := gZ,
 a44 := Tryz.isAgg389,
 z44 := Tryz.sizeOf389,
 v44 := iG,
 t46 := ib,
 a46 := Tryz.isAgg309,
 z46 := Tryz.sizeOf309,
 v46 := iH,
 t53 := ic,
 a53 := Tryz.isAgg419,
 z53 := Tryz.sizeOf419,
 v53 := iI,
 t57 := ie,
 a57 := Tryz.isAgg423,
 z57 := Tryz.sizeOf423,
 v57 := iJ,
 t63 := ig,
 a63 := Tryz.isAgg446,
 z63 := Tryz.sizeOf446,
 v63 := iK,
 t64 := ij,
 a64 := Tryz.isAgg274,
 z64 := Tryz.sizeOf274,
 v64 := iL}
def NK : Go.Shelf.Ren := ⟨fun | 7 => 234 | 10 => 327 | n => n, fun | 23 => 296 | 26 => 9 | 3 => 4 | 28 => 223 | 0 => 0 | 27 => 222 | 33 => 214 | 4 => 4 | n => n, fun | n => n⟩
theorem Nx : Go.Proofs.SlLaysZ.n7 Tryz.prog NK := {
 mixed := by kernel_rfl,
 f7 := ⟨Tryz.f234.name, by decide, Tryz.func234.trans (aX some (by kernel_rfl))⟩,
 f10 := ⟨Tryz.f327.name, by decide, Tryz.func327.trans (aX some (by kernel_rfl))⟩,
 t0 := fF,
 a0 := iA,
 z0 := gO,
 v0 := fT,
 t4 := gv,
 a4 := ju,
 z4 := jj,
 v4 := gI,
 t23 := Tryz.underlying296,
 a23 := Tryz.isAgg296,
 z23 := Tryz.sizeOf296,
 v23 := Tryz.zeroValue296,
 t26 := fh,
 a26 := gB,
 z26 := gh,
 v26 := fu,
 t27 := Tryz.underlying222,
 a27 := Tryz.isAgg222,
 z27 := Tryz.sizeOf222,
 v27 := Tryz.zeroValue222,
 t28 := Tryz.underlying223,
 a28 := Tryz.isAgg223,
 z28 := Tryz.sizeOf223,
 v28 := Tryz.zeroValue223,
 t33 := Tryz.underlying214,
 a33 := Tryz.isAgg214,
 z33 := Tryz.sizeOf214,
 v33 := Tryz.zeroValue214}
def ND : Go.Shelf.Ren := ⟨fun | 6 => 159 | 8 => 272 | 9 => 273 | 11 => 342 | 13 => 322 | 12 => 343 | 23 => 367 | 24 => 368 | 14 => 396 | 15 => 397 | 16 => 398 | 17 => 399 | 18 => 400 | 19 => 401 | 20 => 402 | 21 => 403 | 22 => 404 | 25 => 426 | 26 => 411 | 27 => 412 | 28 => 427 | 29 => 428 | 30 => 429 | 31 => 454 | n => n, fun | 26 => 9 | 28 => 223 | 24 => 82 | 0 => 0 | 3 => 3 | 37 => 353 | 48 => 389 | 50 => 309 | 4 => 4 | 40 => 383 | 39 => 382 | 45 => 39 | 5 => 5 | 9 => 9 | 51 => 419 | 55 => 423 | 57 => 446 | 58 => 274 | 33 => 214 | n => n, fun | n => n⟩
theorem N9 : Go.Proofs.SlLaysZ.n6 Tryz.prog ND := {
 mixed := by kernel_rfl,
 f6 := ⟨Tryz.f159.name, by decide, Tryz.func159.trans (aX some (by kernel_rfl))⟩,
 f8 := ⟨Tryz.f272.name, by decide, Tryz.func272.trans (aX some (by kernel_rfl))⟩,
 f11 := ⟨Tryz.f342.name, by decide, Tryz.func342.trans (aX some (by kernel_rfl))⟩,
 t0 := fF,
 a0 := iA,
 z0 := gO,
 v0 := fT,
 t24 := iM,
 a24 := Tryz.isAgg82,
 z24 := Tryz.sizeOf82,
 v24 := jc,
 t26 := fh,
 a26 := gB,
 z26 := gh,
 v26 := fu,
 t28 := Tryz.underlying223,
 a28 := Tryz.isAgg223,
 z28 := Tryz.sizeOf223,
 v28 := Tryz.zeroValue223,
 i26 := by kernel_rfl}
end Go.Proofs.YtmlncblocfcmiaaGreat
namespace Go.Proofs.YtmlncblocfcmiaaGreat
open Go.RowKit
set_option maxRecDepth 10000
noncomputable section
structure jB where
 jF : ByteArray
 jK : ByteArray
def jH (x : jB) : List Value := [.string x.jF, .string x.jK]
def kc (x y : jB) : Bool := (lh x.jF y.jF) && ((lh x.jK y.jK) && true)
theorem jZ {x y : jB} : kc x y = true ↔ x = y := by
 cases x; cases y; simp [kc, mc]
theorem mY (x : jB) : (jH x).length = 2 := rfl
theorem pg (x : jB) : ∀ u ∈ jH x, u.oneCell' = true := by
 intro u hu
 simp only [jH, aQ, dF, fP] at hu
 rcases hu with rfl | rfl <;> rfl
structure jA where
 Kind : Int
 Head : jB
 kA : ByteArray
 B : jB
 C : jB
 kz : ByteArray
def jD (x : jA) : List Value := [.int .i64 x.Kind, .string x.Head.jF, .string x.Head.jK, .string x.kA, .string x.B.jF, .string x.B.jK, .string x.C.jF, .string x.C.jK, .string x.kz]
def kp (x y : jA) : Bool := (x.Kind == y.Kind) && ((kc x.Head y.Head) && ((lh x.kA y.kA) && ((kc x.B y.B) && ((kc x.C y.C) && ((lh x.kz y.kz) && true)))))
theorem lK {x y : jA} : kp x y = true ↔ x = y := by
 cases x; cases y; simp [kp, mc, jZ]
theorem lm (x : jA) : (jD x).length = 9 := rfl
theorem nF (x : jA) : ∀ u ∈ jD x, u.oneCell' = true := by
 intro u hu
 simp only [jD, aQ, dF, fP] at hu
 rcases hu with rfl | rfl | rfl | rfl | rfl | rfl | rfl | rfl | rfl <;> rfl
structure jR where
 jB : jB
 kA : ByteArray
def lO (x : jR) : List Value := [.string x.jB.jF, .string x.jB.jK, .string x.kA]
def yU (x y : jR) : Bool := (kc x.jB y.jB) && ((lh x.kA y.kA) && true)
theorem yb {x y : jR} : yU x y = true ↔ x = y := by
 cases x; cases y; simp [yU, mc, jZ]
theorem wZ (x : jR) : (lO x).length = 3 := rfl
theorem Jc (x : jR) : ∀ u ∈ lO x, u.oneCell' = true := by
 intro u hu
 simp only [lO, aQ, dF, fP] at hu
 rcases hu with rfl | rfl | rfl <;> rfl
structure Of where
 Q0 : Int
 Q1 : Int
structure kD where
 e : Int
def lB (x : kD) : List Value := [.int .i64 x.e]
structure Key where
 kA : ByteArray
 Key : List Int
structure Signed where
 jA : jA
 Tag : List Int
structure Formula where
 Op : Int
 K : Int
 jB : jB
 Kids : List Formula
structure kw where
 Signed : Signed
 jL : Formula
structure ml where
 jB : jB
 jL : Formula
 lI : List jA
structure jI where
 Name : ByteArray
 jV : List kw
 kx : List ml
structure Hf where
 jF : jI
 Client : jI
 Formula : Formula
 qN : Int
 Nn : Of
 Jq : Int
 Np : Int
 KO : Int
 Keys : List Key
structure lP where
 jI : jI
 lG : ByteArray
 Room : Int
 jU : List jA
 Shown : List jA
 kq : List jB
 lc : List jB
structure vo where
 Kind : Int
 qN : Int
 E : Int
 Name : ByteArray
 oF : List jB
 ns : List Signed
def nT (a0 : ByteArray) (a : Int) : Option Int :=
 some (vq a0 a)
def qD (a0 : ByteArray) (a : Int) : Option Int :=
 ((nT a0 a).bind fun b => some b)
def tN  : List Int → Option Bool
 | [] => some true
 | c :: a => ((qD (⟨#[97, 98, 99, 100, 101, 102, 103, 104, 105, 106, 107, 108, 109, 110, 111, 112, 113, 114, 115, 116, 117, 118, 119, 120, 121, 122, 48, 49, 50, 51, 52, 53, 54, 55, 56, 57, 45]⟩ : ByteArray) c).bind fun b => (if (decide (b < 0)) then some false else (tN a)))
def Ak (a0 : ByteArray) : Option Bool :=
 ((Bf a0).bind fun a => tN a)
def nY (a0 : ByteArray) : Option Bool :=
 (((if (decide ((a0.size : Int) ≥ 1)) then some (decide ((a0.size : Int) ≤ 16)) else some false) : Option Bool).bind fun x2 => (((if x2 then ((yv a0 0).bind fun a => ((qD (⟨#[97, 98, 99, 100, 101, 102, 103, 104, 105, 106, 107, 108, 109, 110, 111, 112, 113, 114, 115, 116, 117, 118, 119, 120, 121, 122]⟩ : ByteArray) (a.toNat : Int)).bind fun c => some (decide (c ≥ 0)))) else some false) : Option Bool).bind fun d => (((if d then ((Ak a0).bind fun b => some b) else some false) : Option Bool).bind fun g => some g)))
def sJ (a0 : List Int) : Option (List Int) :=
 ((mG 1 ([]) a0).bind fun a => some a)
def ob (a0 : jB) : Option Bool :=
 ((nY a0.jF).bind fun c => (((if c then ((nY a0.jK).bind fun a => some a) else some false) : Option Bool).bind fun b => some b))
def mV (a0 a : ByteArray) : Option Int :=
 some (oN a0 a)
def pa (a0 a : ByteArray) : Option Int :=
 ((mV a0 a).bind fun b => some b)
def rn  : List Int → Option Int
 | [] => some 0
 | a :: b => (if (a != 0) then some a else (rn b))
def tK (a0 : List Int) : Option Int :=
 rn a0
def nc (a0 d : jB) : Option Int :=
 ((pa a0.jF d.jF).bind fun a => ((pa a0.jK d.jK).bind fun b => ((tK ([a, b])).bind fun c => some c)))
def rh (a0 : jA) : Option Bool :=
 ((ob a0.Head).bind fun x => (((if (a0.Kind == 1) then (((if x then ((nY a0.kA).bind fun b => some b) else some false) : Option Bool).bind fun n => some (Sum.inr (n, (⟨a0.Kind, a0.Head, a0.kA, (⟨zS, zS⟩ : jB), (⟨zS, zS⟩ : jB), zS⟩ : jA)))) else (if (a0.Kind == 2) then (((if x then ((ob a0.B).bind fun c => some c) else some false) : Option Bool).bind fun o => some (Sum.inr (o, (⟨a0.Kind, a0.Head, zS, a0.B, (⟨zS, zS⟩ : jB), zS⟩ : jA)))) else (if (a0.Kind == 3) then (((if x then ((ob a0.B).bind fun g => some g) else some false) : Option Bool).bind fun q => (((if q then some (lh a0.B.jF a0.Head.jF) else some false) : Option Bool).bind fun r => (((if r then ((nY a0.kz).bind fun d => some d) else some false) : Option Bool).bind fun t => some (Sum.inr (t, (⟨a0.Kind, a0.Head, zS, a0.B, (⟨zS, zS⟩ : jB), a0.kz⟩ : jA)))))) else (if (a0.Kind == 4) then (((if x then ((ob a0.B).bind fun j => some j) else some false) : Option Bool).bind fun u => (((if u then ((ob a0.C).bind fun i => some i) else some false) : Option Bool).bind fun v => (((if v then ((nc a0.B a0.C).bind fun h => some (decide (h < 0))) else some false) : Option Bool).bind fun w => some (Sum.inr (w, (⟨a0.Kind, a0.Head, zS, a0.B, a0.C, zS⟩ : jA)))))) else some (Sum.inl false))))) : Option (Bool ⊕ (Bool × jA))).bind fun s => match s with | .inl a => some a | .inr (k, l) => (((if k then some (kp l a0) else some false) : Option Bool).bind fun m => some m)))
def pv  : Nat → Int → (List Int) → Option (Bool × (List Int))
 | 0, _, _ => none
 | g + 1, a, c => (if (decide (a ≥ 128)) then ((mG 1 c ([(IntKind.u8.wrap (BitVec.ofInt (IntKind.bits .u8) (IntKind.u8.wrap a) ||| BitVec.ofInt (IntKind.bits .u8) 128).toNat)])).bind fun d => (pv g (Int.fdiv a (2 ^ min (Int.toNat 7) (IntKind.bits .i64))) d)) else ((mG 1 c ([(IntKind.u8.wrap a)])).bind fun b => some (true, b)))
def nx (a : List Int) (b : Int) : Option (Bool × (List Int)) :=
 (if (decide (b < 0)) then some (false, a) else pv kC b a)
def vR (a b : List Int) : Option (Bool × (List Int)) :=
 (if (decide ((b.length : Int) > 2048)) then some (false, a) else ((nx a (b.length : Int)).bind fun d => ((mG 1 d.2 b).bind fun c => some (true, c))))
def si (a : List Int) (h : ByteArray) : Option (Bool × (List Int)) :=
 ((nY h).bind fun i => (((if i then ((Bf h).bind fun d => ((vR a d).bind fun b => some (b.1, b.2))) else some (false, a)) : Option (Bool × (List Int))).bind fun (g, c) => some (g, c)))
def pq (a : List Int) (g : jB) : Option (Bool × (List Int)) :=
 ((ob g).bind fun k => (((if k then ((si a g.jF).bind fun d => some (d.1, d.2)) else some (false, a)) : Option (Bool × (List Int))).bind fun (i, b) => (((if i then ((si b g.jK).bind fun c => some (c.1, c.2)) else some (false, b)) : Option (Bool × (List Int))).bind fun (j, h) => some (j, h))))
def sy (a : List Int) : Option (List Int) :=
 ((sJ a).bind fun b => some b)
def vc (a0 : jA) : Option (List Int) :=
 ((rh a0).bind fun l => (if (!l) then some [] else ((nx ([]) a0.Kind).bind fun m => ((pq m.2 a0.Head).bind fun a => (((if (a0.Kind == 1) then ((si a.2 a0.kA).bind fun d => some d.2) else (if (a0.Kind == 2) then ((pq a.2 a0.B).bind fun g => some g.2) else (if (a0.Kind == 3) then ((pq a.2 a0.B).bind fun h => ((si h.2 a0.kz).bind fun i => some i.2)) else (if (a0.Kind == 4) then ((pq a.2 a0.B).bind fun j => ((pq j.2 a0.C).bind fun k => some k.2)) else some a.2)))) : Option (List Int)).bind fun b => ((sy b).bind fun c => some c))))))
def yE (a0 a : List Int) : Option Bool :=
 some (lh (yt a0) (yt a))
def qE (a0 : List jA) : Option (List jA) :=
 ((mG 136 ([]) a0).bind fun a => some a)
def oe (f1 : jA → Option Bool) : List jA → Nat → Option Int
 | [], _ => some (-1)
 | c :: a, i35 => ((f1 c).bind fun b => (if b then some (i35 : Int) else (oe f1 a (i35 + 1))))
def oX (a0 : List jA) (f1 : jA → Option Bool) : Option Int :=
 oe f1 a0 0
def mX (f1 : jA → Option Bool) : Nat → (List jA) → Int → Int → Option (List jA)
 | 0, _, _, _ => none
 | n321 + 1, b, a, c => (if (decide (c < (b.length : Int))) then ((((lj b c).bind fun d => ((f1 d).bind fun h => (if (!h) then ((lj b a).bind fun j => some ((b.set (Int.toNat a) d), (IntKind.i64.wrap (a + 1)))) else some (b, a)))) : Option ((List jA) × Int)).bind fun (g, i) => (mX f1 n321 g i (IntKind.i64.wrap (c + 1)))) else ((qj (decide (0 ≤ a) && decide (a ≤ (b.length : Int)))).bind fun _ => ((qj (decide (0 ≤ a) && decide (a ≤ ((nh b (Int.toNat a) (⟨0, (⟨zS, zS⟩ : jB), zS, (⟨zS, zS⟩ : jB), (⟨zS, zS⟩ : jB), zS⟩ : jA)).length : Int)))).bind fun _ => some ((nh b (Int.toNat a) (⟨0, (⟨zS, zS⟩ : jB), zS, (⟨zS, zS⟩ : jB), (⟨zS, zS⟩ : jB), zS⟩ : jA)).take (Int.toNat a)))))
def oM (a0 : List jA) (f1 : jA → Option Bool) : Option (List jA) :=
 ((oX a0 f1).bind fun a => (if (a == (-1)) then some a0 else mX f1 kC a0 a (IntKind.i64.wrap (a + 1))))
def wm (a0 : jA) : Option Bool :=
 ((rh a0).bind fun a => some (!a))
def uT (a0 a : List Int) : Option Int :=
 some (wO a0 a)
def pJ (a0 d : jA) : Option Int :=
 ((vc a0).bind fun a => ((vc d).bind fun b => ((uT a b).bind fun c => some c)))
def nH (b : Int) : Nat → (List jA) → Int → Int → Option ((List jA) × Int)
 | 0, _, _, _ => none
 | h + 1, a, c, d => (if (decide (d < ((a.length - (Int.toNat b) : Nat) : Int))) then ((((lj (a.drop (Int.toNat b)) d).bind fun j => ((lj (a.drop (Int.toNat b)) (IntKind.i64.wrap (d - 1))).bind fun k => (if (!(kp j k)) then ((lj (a.drop (Int.toNat b)) d).bind fun l => ((lj a c).bind fun m => some ((a.set (Int.toNat c) l), (IntKind.i64.wrap (c + 1))))) else some (a, c)))) : Option ((List jA) × Int)).bind fun (g, i) => (nH b h g i (IntKind.i64.wrap (d + 1)))) else some (a, c))
def nG (a0 : List jA) : Nat → Int → Option (List jA)
 | 0, _ => none
 | d + 1, a => (if (decide (a < (a0.length : Int))) then ((lj a0 a).bind fun g => ((lj a0 (IntKind.i64.wrap (a - 1))).bind fun h => (if (kp g h) then ((qj (decide (0 ≤ a) && decide (a ≤ (a0.length : Int)))).bind fun _ => ((nH a kC a0 a 1 : Option ((List jA) × Int)).bind fun (c, b) => ((qj (decide (0 ≤ b) && decide (b ≤ (c.length : Int)))).bind fun _ => ((qj (decide (0 ≤ b) && decide (b ≤ ((nh c (Int.toNat b) (⟨0, (⟨zS, zS⟩ : jB), zS, (⟨zS, zS⟩ : jB), (⟨zS, zS⟩ : jB), zS⟩ : jA)).length : Int)))).bind fun _ => some ((nh c (Int.toNat b) (⟨0, (⟨zS, zS⟩ : jB), zS, (⟨zS, zS⟩ : jB), (⟨zS, zS⟩ : jB), zS⟩ : jA)).take (Int.toNat b)))))) else (nG a0 d (IntKind.i64.wrap (a + 1)))))) else some a0)
def rF (a0 : List jA) : Option (List jA) :=
 (if (decide ((a0.length : Int) < 2)) then some a0 else nG a0 kC 1)
def oW (a0 : List jA) : Option (List jA) :=
 ((qE a0).bind fun d => ((oM d (fun (x : jA) => wm x)).bind fun a => ((wE (fun (x : (jA × jA)) => pJ x.1 x.2) a).bind fun b => ((rF b).bind fun c => some c))))
def pp (c : jA) : List jA → Nat → Option Int
 | [], _ => some (-1)
 | b :: a, i46 => (if (kp c b) then some (i46 : Int) else (pp c a (i46 + 1)))
def uI (a0 : List jA) (a : jA) : Option Int :=
 pp a a0 0
def ra (a0 : List jA) (a : jA) : Option Bool :=
 ((uI a0 a).bind fun b => some (decide (b ≥ 0)))
def rV (a0 : List jA) (a : jA) : Option Bool :=
 ((ra a0 a).bind fun b => some b)
def xk (a0 : jA) : Option (List jB) :=
 ((rh a0).bind fun g => (if (!g) then some [] else (((if (a0.Kind != 1) then ((mG 32 ([a0.Head]) ([a0.B])).bind fun d => some d) else some ([a0.Head])) : Option (List jB)).bind fun a => (((if (a0.Kind == 4) then ((mG 32 a ([a0.C])).bind fun c => some c) else some a) : Option (List jB)).bind fun b => some b))))
def nO (h : jA) (a : List (ByteArray × (List jA))) (d : List jA) : List jB → (List (jB × (List jA))) → Option ((List jA) × (List (jB × (List jA))) × (List (ByteArray × (List jA))))
 | [], b => (if (h.Kind == 3) then ((mG 136 ((lg lh a h.kz).getD []) ([h])).bind fun j => some (d, b, (mS lh a h.kz j))) else some (d, b, a))
 | c :: g, b => ((mG 136 ((lg kc b c).getD []) ([h])).bind fun i => (nO h a d g (mS kc b c i)))
def rT (h : List (jB × (List (ByteArray × Bool)))) (a : List jA) (c : List (jB × (List jA))) (b : List (ByteArray × (List jA))) (d : List jR) (k : Int) (i : jA) : Option ((List jA) × (List (jB × (List jA))) × (List (ByteArray × (List jA)))) :=
 ((mG 136 a ([i])).bind fun j => ((xk i).bind fun g => ((qj (decide (0 ≤ 1) && decide (1 ≤ (g.length : Int)))).bind fun _ => nO i b j (g.drop (Int.toNat 1)) c)))
def nj (a : List (jB × (List (ByteArray × Bool)))) (d : List jA) (h : List (jB × (List jA))) (g : List (ByteArray × (List jA))) (b : List jR) (c : Int) (i : jB) (a2 : ByteArray) : Option ((List (jB × (List (ByteArray × Bool)))) × (List jR) × Int) :=
 (if (uM lh ((lg kc a i).getD []) a2 false) then some (a, b, c) else (((if (lg kc a i).isNone then ((EG kc a i ([])).bind fun j => some j) else some a) : Option (List (jB × (List (ByteArray × Bool))))).bind fun k => ((Eu kc lh k i a2 true).bind fun l => ((mG 48 b ([(⟨i, a2⟩ : jR)])).bind fun m => some (l, m, (IntKind.i64.wrap (c + 1)))))))
def nZ (a0 : List (ByteArray × Bool)) : Option Unit :=
 some ()
def pL (a : List (jB × (List (ByteArray × Bool)))) (b : List jA) (g : List (jB × (List jA))) (c : List (ByteArray × (List jA))) (d : List jR) (i : Int) (j : jB) : Option (List ByteArray) :=
 ((nZ ((lg kc a j).getD [])).bind fun k => ((ES ((lg kc a j).getD [])).bind fun h => some h))
def px (a : List jA) (c : List (jB × (List jA))) (b : List (ByteArray × (List jA))) (a2 : jB) : List ByteArray → (List (jB × (List (ByteArray × Bool)))) → (List jR) → Int → Option ((List (jB × (List (ByteArray × Bool)))) × (List jR) × Int)
 | [], d, g, i => some (d, g, i)
 | k :: j, d, g, i => ((nj d a c b g i a2 k).bind fun h => (px a c b a2 j h.1 h.2.1 h.2.2))
def sC (g : List (jB × (List (ByteArray × Bool)))) (a : List jA) (d : List (jB × (List jA))) (b : List (ByteArray × (List jA))) (c : List jR) (h : Int) (i a2 : jB) : Option ((List (jB × (List (ByteArray × Bool)))) × (List jR) × Int) :=
 ((pL g a d b c h i).bind fun j => px a d b a2 j g c h)
def qH (a : List (jB × (List (ByteArray × Bool)))) (c : List jA) (g : List (jB × (List jA))) (d : List (ByteArray × (List jA))) (b : List jR) (h : Int) (i : jA) (a2 : jR) : Option ((List (jB × (List (ByteArray × Bool)))) × (List jR) × Int) :=
 (if (i.Kind == 2) then ((nj a c g d b h i.Head a2.kA).bind fun l => some (l.1, l.2.1, l.2.2)) else (if (i.Kind == 3) then ((sC a c g d b h (⟨a2.kA, i.kz⟩ : jB) i.Head).bind fun j => some (j.1, j.2.1, j.2.2)) else (if (i.Kind == 4) then (((if (uM lh ((lg kc a i.B).getD []) a2.kA false) then some (uM lh ((lg kc a i.C).getD []) a2.kA false) else some false) : Option Bool).bind fun m => (if m then ((nj a c g d b h i.Head a2.kA).bind fun k => some (k.1, k.2.1, k.2.2)) else some (a, b, h))) else some (a, b, h))))
def oK (a : List jA) (c : List (jB × (List jA))) (b : List (ByteArray × (List jA))) (l : jA) : List ByteArray → (List (jB × (List (ByteArray × Bool)))) → (List jR) → Int → Option ((List (jB × (List (ByteArray × Bool)))) × (List jR) × Int)
 | [], d, g, i => some (d, g, i)
 | k :: j, d, g, i => ((qH d a c b g i l (⟨l.B, k⟩ : jR)).bind fun h => (oK a c b l j h.1 h.2.1 h.2.2))
def rB (g : List (jB × (List (ByteArray × Bool)))) (a : List jA) (d : List (jB × (List jA))) (b : List (ByteArray × (List jA))) (c : List jR) (h : Int) (i : jA) : Option ((List (jB × (List (ByteArray × Bool)))) × (List jR) × Int) :=
 (if (i.Kind == 1) then ((nj g a d b c h i.Head i.kA).bind fun k => some (k.1, k.2.1, k.2.2)) else ((pL g a d b c h i.B).bind fun j => oK a d b i j g c h))
def nr (h : jR) (a : List jA) (c : List (jB × (List jA))) (b : List (ByteArray × (List jA))) : List jA → (List (jB × (List (ByteArray × Bool)))) → (List jR) → Int → Option ((List (jB × (List (ByteArray × Bool)))) × (List jR) × Int)
 | [], d, g, i => some (d, g, i)
 | l :: k, d, g, i => (if (uM lh ((lg kc d l.B).getD []) h.jB.jF false) then ((nj d a c b g i l.Head h.kA).bind fun j => (nr h a c b k j.1 j.2.1 j.2.2)) else (nr h a c b k d g i))
def oy (a : List jA) (c : List (jB × (List jA))) (b : List (ByteArray × (List jA))) (j : jR) : List jA → (List (jB × (List (ByteArray × Bool)))) → (List jR) → Int → Option ((List (jB × (List (ByteArray × Bool)))) × (List jR) × Int)
 | [], d, g, i => some (d, g, i)
 | l :: k, d, g, i => ((qH d a c b g i l j).bind fun h => (oy a c b j k h.1 h.2.1 h.2.2))
def mO (c : List jA) (b : List (jB × (List jA))) (a : List (ByteArray × (List jA))) : Nat → (List (jB × (List (ByteArray × Bool)))) → (List jR) → Int → Option ((List (jB × (List (ByteArray × Bool)))) × (List jR) × Int)
 | 0, _, _, _ => none
 | n + 1, h, d, i => (if (decide ((d.length : Int) > 0)) then ((lj d 0).bind fun g => ((qj (decide (0 ≤ 1) && decide (1 ≤ (d.length : Int)))).bind fun _ => ((oy c b a g ((lg kc b g.jB).getD []) h (d.drop (Int.toNat 1)) i : Option ((List (jB × (List (ByteArray × Bool)))) × (List jR) × Int)).bind fun (j, k, o) => ((nr g c b a ((lg lh a g.jB.jK).getD []) j k o : Option ((List (jB × (List (ByteArray × Bool)))) × (List jR) × Int)).bind fun (l, m, q) => (mO c b a n l m q))))) else some (h, d, i))
def tj (g : List (jB × (List (ByteArray × Bool)))) (a : List jA) (d : List (jB × (List jA))) (b : List (ByteArray × (List jA))) (c : List jR) (h : Int) : Option ((List (jB × (List (ByteArray × Bool)))) × (List jR) × Int) :=
 mO a d b kC g c h
def nl (l : Int) : List jA → (List (jB × (List (ByteArray × Bool)))) → (List jA) → (List (jB × (List jA))) → (List (ByteArray × (List jA))) → (List jR) → Int → Option (Int × (List (jB × (List (ByteArray × Bool)))) × (List jA) × (List (jB × (List jA))) × (List (ByteArray × (List jA))) × (List jR) × Int)
 | [], c, a, d, g, h, i => ((tj c a d g h i).bind fun j => some ((IntKind.i64.wrap (j.2.2 - l)), j.1, a, d, g, j.2.1, j.2.2))
 | k :: n, c, a, d, g, h, i => ((rh k).bind fun o => (((if o then ((rV a k).bind fun q => some (!q)) else some false) : Option Bool).bind fun r => (if r then ((rT c a d g h i k).bind fun b => ((rB c b.1 b.2.1 b.2.2 h i k).bind fun m => (nl l n m.1 b.1 b.2.1 b.2.2 m.2.1 m.2.2))) else (nl l n c a d g h i))))
def sE (g : List (jB × (List (ByteArray × Bool)))) (a : List jA) (d : List (jB × (List jA))) (b : List (ByteArray × (List jA))) (c : List jR) (h : Int) (i : List jA) : Option (Int × (List (jB × (List (ByteArray × Bool)))) × (List jA) × (List (jB × (List jA))) × (List (ByteArray × (List jA))) × (List jR) × Int) :=
 nl h i g a d b c h
def um (a0 : List jA) : Option ((List (jB × (List (ByteArray × Bool)))) × (List jA) × (List (jB × (List jA))) × (List (ByteArray × (List jA))) × (List jR) × Int) :=
 ((sE ([]) ([]) ([]) ([]) ([]) 0 a0).bind fun a => some (a.2.1, a.2.2.1, a.2.2.2.1, a.2.2.2.2.1, a.2.2.2.2.2.1, a.2.2.2.2.2.2))
def po (a0 d : jR) : Option Int :=
 ((nc a0.jB d.jB).bind fun a => ((pa a0.kA d.kA).bind fun b => ((tK ([a, b])).bind fun c => some c)))
def uJ (c : List (jB × (List (ByteArray × Bool)))) (d : List jA) (i : List (jB × (List jA))) (g : List (ByteArray × (List jA))) (h : List jR) (k : Int) : Option (List jR) :=
 ((Lq 48 (fun (a : jB) (b : ByteArray) => (⟨a, b⟩ : jR)) c).bind fun l => Co l (fun j => ((wE (fun (x : (jR × jR)) => po x.1 x.2) j).bind fun m => some m)))
def qU (a : List (jB × (List (ByteArray × Bool)))) (b : List jA) (g : List (jB × (List jA))) (c : List (ByteArray × (List jA))) (d : List jR) (h : Int) (i : jB) (a2 : ByteArray) : Option Bool :=
 some (uM lh ((lg kc a i).getD []) a2 false)
def qP  : List jA → Int → Option Int
 | [], b => some b
 | a :: c, b => (qP c (IntKind.i64.wrap (b + (IntKind.i64.wrap ((IntKind.i64.wrap ((IntKind.i64.wrap ((IntKind.i64.wrap ((IntKind.i64.wrap ((IntKind.i64.wrap ((IntKind.i64.wrap ((IntKind.i64.wrap (20 + (a.Head.jF.size : Int))) + (a.Head.jK.size : Int))) + (a.kA.size : Int))) + (a.B.jF.size : Int))) + (a.B.jK.size : Int))) + (a.C.jF.size : Int))) + (a.C.jK.size : Int))) + (a.kz.size : Int))))))
def py (a0 : List jA) : Option Int :=
 qP a0 0
def sw  : List Signed → Int → Option Int
 | [], a => some a
 | b :: c, a => ((py ([b.jA])).bind fun d => (sw c (IntKind.i64.wrap (a + (IntKind.i64.wrap (d + (b.Tag.length : Int)))))))
def uh (g : List Signed) : List Key → Int → Option Int
 | [], a => ((sw g a : Option Int).bind fun b => some b)
 | c :: d, a => (uh g d (IntKind.i64.wrap (a + (IntKind.i64.wrap ((IntKind.i64.wrap (10 + (c.kA.size : Int))) + (c.Key.length : Int))))))
def wD (a0 : List Key) (a : List Signed) : Option Int :=
 uh a a0 0
def sr (a0 : ByteArray) : Nat → Int → Option Bool
 | 0, _ => none
 | c + 1, b => (if (decide (b < (a0.size : Int))) then ((yv a0 b).bind fun a => (((if (decide ((a.toNat : Int) < 97)) then some true else some (decide ((a.toNat : Int) > 122))) : Option Bool).bind fun d => (((if d then (((if (decide ((a.toNat : Int) < 48)) then some true else some (decide ((a.toNat : Int) > 57))) : Option Bool).bind fun i => some i) else some false) : Option Bool).bind fun g => (((if g then some ((a.toNat : Int) != 45) else some false) : Option Bool).bind fun h => (if h then some false else (sr a0 c (IntKind.i64.wrap (b + 1)))))))) else some true)
def rI (a0 : ByteArray) : Option Bool :=
 (((if (lh a0 zS) then some true else some (decide ((a0.size : Int) > 16))) : Option Bool).bind fun x2 => (((if x2 then some true else ((yv a0 0).bind fun b => some (decide ((b.toNat : Int) < 97)))) : Option Bool).bind fun c => (((if c then some true else ((yv a0 0).bind fun a => some (decide ((a.toNat : Int) > 122)))) : Option Bool).bind fun d => (if d then some false else sr a0 kC 0))))
def uy (a0 : jB) : Option Bool :=
 ((rI a0.jF).bind fun c => (((if c then ((rI a0.jK).bind fun a => some a) else some false) : Option Bool).bind fun b => some b))
def xn (a0 a : jB) : Option Bool :=
 (((if (pV a0.jF a.jF) then some true else (((if (lh a0.jF a.jF) then some (pV a0.jK a.jK) else some false) : Option Bool).bind fun c => some c)) : Option Bool).bind fun b => some b)
def wB (a0 : jA) : Option Bool :=
 ((uy a0.Head).bind fun s => (if (!s) then some false else (if (a0.Kind == 1) then ((rI a0.kA).bind fun h => (((if h then some (kc a0.B (⟨zS, zS⟩ : jB)) else some false) : Option Bool).bind fun j => (((if j then some (kc a0.C (⟨zS, zS⟩ : jB)) else some false) : Option Bool).bind fun k => (((if k then some (lh a0.kz zS) else some false) : Option Bool).bind fun l => some l)))) else (((if (!(lh a0.kA zS)) then some true else ((uy a0.B).bind fun c => some (!c))) : Option Bool).bind fun m => (if m then some false else (if (a0.Kind == 2) then (((if (kc a0.C (⟨zS, zS⟩ : jB)) then some (lh a0.kz zS) else some false) : Option Bool).bind fun n => some n) else (if (a0.Kind == 3) then (((if (kc a0.C (⟨zS, zS⟩ : jB)) then some (lh a0.B.jF a0.Head.jF) else some false) : Option Bool).bind fun o => (((if o then ((rI a0.kz).bind fun i => some i) else some false) : Option Bool).bind fun q => some q)) else (((if (a0.Kind == 4) then some (lh a0.kz zS) else some false) : Option Bool).bind fun r => (((if r then ((uy a0.C).bind fun b => some b) else some false) : Option Bool).bind fun d => (((if d then ((xn a0.B a0.C).bind fun a => some a) else some false) : Option Bool).bind fun g => some g))))))))))
def vW  : Nat → Int → ByteArray → Option ByteArray
 | 0, _, _ => none
 | n45 + 1, a, b => (if (decide (a ≥ 128)) then ((zo b (yt ([(IntKind.u8.wrap (IntKind.i64.wrap (128 + (Int.tmod a 128))))]))).bind fun c => (vW n45 (IntKind.i64.wrap (Int.tdiv a 128)) c)) else ((zo b (yt ([(IntKind.u8.wrap a)]))).bind fun d => some d))
def vB (a0 : Int) : Option ByteArray :=
 vW kC a0 zS
def tG (a0 : ByteArray) : Option ByteArray :=
 ((vB (a0.size : Int)).bind fun a => ((zo a a0).bind fun b => some b))
def uz (a0 : jB) : Option ByteArray :=
 ((tG a0.jF).bind fun a => ((tG a0.jK).bind fun b => ((zo a b).bind fun c => some c)))
def Ca (a0 : jA) : Option ByteArray :=
 ((vB a0.Kind).bind fun d => ((uz a0.Head).bind fun g => ((zo d g).bind fun a => (if (a0.Kind == 1) then ((tG a0.kA).bind fun h => ((zo a h).bind fun l => some l)) else ((uz a0.B).bind fun i => ((zo a i).bind fun b => (((if (a0.Kind == 3) then ((tG a0.kz).bind fun k => ((zo b k).bind fun n => some n)) else some b) : Option ByteArray).bind fun c => (((if (a0.Kind == 4) then ((uz a0.C).bind fun j => ((zo c j).bind fun m => some m)) else some c) : Option ByteArray).bind fun o => some o))))))))
def wy (a0 : jA) : Option ByteArray :=
 ((wB a0).bind fun a => (if (!a) then some zS else ((Ca a0).bind fun b => some b)))
def sZ (a0 c : jA) : Option Int :=
 ((wy a0).bind fun a => ((wy c).bind fun b => (if (pV a b) then some (-1) else (if (!(pV a b || lh a b)) then some 1 else some 0))))
def se (a : List jA) : List jA → Bool → jA → Option (Bool × jA)
 | [], c, d => some (c, d)
 | b :: g, c, d => ((wB b).bind fun h => (((if h then (((if ((a.length : Int) == 0) then some true else ((lj a (IntKind.i64.wrap ((a.length : Int) - 1))).bind fun o => ((sZ o b).bind fun j => some (decide (j < 0))))) : Option Bool).bind fun n => some n) else some false) : Option Bool).bind fun k => (((if k then (((if (!c) then some true else ((sZ b d).bind fun i => some (decide (i < 0)))) : Option Bool).bind fun m => some m) else some false) : Option Bool).bind fun l => (if l then (se a g true b) else (se a g c d)))))
def vJ (a0 : List jA) : Nat → (List jA) → Option (List jA)
 | 0, _ => none
 | c + 1, a => ((se a a0 false (⟨0, (⟨zS, zS⟩ : jB), zS, (⟨zS, zS⟩ : jB), (⟨zS, zS⟩ : jB), zS⟩ : jA) : Option (Bool × jA)).bind fun (d, g) => (if (!d) then some a else ((mG 136 a ([g])).bind fun b => (vJ a0 c b))))
def DN (a0 : List jA) : Option (List jA) :=
 vJ a0 kC ([])
def sf (a : List ByteArray) : List ByteArray → ByteArray → Option ByteArray
 | [], c => some c
 | b :: d, c => ((rI b).bind fun h => (((if h then (((if ((a.length : Int) == 0) then some true else ((lj a (IntKind.i64.wrap ((a.length : Int) - 1))).bind fun g => some (!(pV b g || lh b g)))) : Option Bool).bind fun l => some l) else some false) : Option Bool).bind fun i => (((if i then (((if (lh c zS) then some true else some (pV b c)) : Option Bool).bind fun k => some k) else some false) : Option Bool).bind fun j => (if j then (sf a d b) else (sf a d c)))))
def vG (a0 : List ByteArray) : Nat → (List ByteArray) → Option (List ByteArray)
 | 0, _ => none
 | d + 1, a => ((sf a a0 zS : Option ByteArray).bind fun b => (if (lh b zS) then some a else ((mG 16 a ([b])).bind fun c => (vG a0 d c))))
def AA (a0 : List ByteArray) : Option (List ByteArray) :=
 vG a0 kC ([])
def sm  : List jA → (List ByteArray) → Option (List ByteArray)
 | [], b => ((AA b).bind fun d => some d)
 | a :: g, b => ((mG 16 b ([a.kA, a.Head.jF, a.B.jF, a.C.jF])).bind fun c => (sm g c))
def yB (a0 : List jA) : Option (List ByteArray) :=
 sm a0 ([])
def wj (d : jB) (a2 : ByteArray) : List jR → Option Bool
 | [] => some false
 | b :: c => (((if (kc b.jB d) then some (lh b.kA a2) else some false) : Option Bool).bind fun a => (if a then some true else (wj d a2 c)))
def ub (a0 : List jR) (a : jB) (a2 : ByteArray) : Option Bool :=
 wj a a2 a0
def uS (a0 : List jR) (h : jA) (a3 : ByteArray) : List ByteArray → Option Bool
 | [] => some false
 | a :: b => ((ub a0 h.B a).bind fun c => (((if c then ((ub a0 (⟨a, h.kz⟩ : jB) a3).bind fun d => some d) else some false) : Option Bool).bind fun g => (if g then some true else (uS a0 h a3 b))))
def zu (a0 : List jR) (a : jA) (a2 : List ByteArray) (a3 : ByteArray) : Option Bool :=
 (if (a.Kind == 1) then some (lh a.kA a3) else (if (a.Kind == 2) then ((ub a0 a.B a3).bind fun d => some d) else (if (a.Kind == 4) then ((ub a0 a.B a3).bind fun g => (((if g then ((ub a0 a.C a3).bind fun b => some b) else some false) : Option Bool).bind fun c => some c)) else uS a0 a a3 a2)))
def tM (a0 a : jR) : Option Bool :=
 ((xn a0.jB a.jB).bind fun d => (((if d then some true else (((if (kc a0.jB a.jB) then some (pV a0.kA a.kA) else some false) : Option Bool).bind fun c => some c)) : Option Bool).bind fun b => some b))
def pb (b a0 : List jR) : List jR → Nat → Int → Option Int
 | [], _, a => some a
 | g :: d, c, a => (((if ((b.length : Int) == 0) then some true else ((lj b (IntKind.i64.wrap ((b.length : Int) - 1))).bind fun n => ((tM n g).bind fun i => some i))) : Option Bool).bind fun j => (((if j then (((if (decide (a < 0)) then some true else ((lj a0 a).bind fun m => ((tM g m).bind fun h => some h))) : Option Bool).bind fun l => some l) else some false) : Option Bool).bind fun k => (if k then (pb b a0 d (c + 1) (c : Int)) else (pb b a0 d (c + 1) a))))
def oZ (a0 : List jR) : List jR → (List jR) → Option (List jR)
 | [], a => some a
 | h :: c, a => ((pb a a0 a0 0 (-1) : Option Int).bind fun b => (if (decide (b ≥ 0)) then ((lj a0 b).bind fun g => ((mG 48 a ([g])).bind fun d => (oZ a0 c d))) else (oZ a0 c a)))
def AT (a0 : List jR) : Option (List jR) :=
 oZ a0 a0 ([])
def uw (b : jA) (l : List ByteArray) : List ByteArray → (List jR) → Bool → Option ((List jR) × Bool)
 | [], a, d => some (a, d)
 | c :: g, a, d => ((ub a b.Head c).bind fun i => (((if (!i) then ((zu a b l c).bind fun j => some j) else some false) : Option Bool).bind fun k => (if k then ((mG 48 a ([(⟨b.Head, c⟩ : jR)])).bind fun h => (uw b l g h true)) else (uw b l g a d))))
def wk (i : List ByteArray) : List jA → (List jR) → Bool → Option ((List jR) × Bool)
 | [], a, b => some (a, b)
 | g :: c, a, b => ((uw g i i a b : Option ((List jR) × Bool)).bind fun (d, h) => (wk i c d h))
def wz (h : List ByteArray) (i : List jA) : Nat → (List jR) → Option (List jR)
 | 0, _ => none
 | b + 1, g => ((wk h i g false : Option ((List jR) × Bool)).bind fun (a, d) => (if (!d) then ((AT a).bind fun c => some c) else (wz h i b a)))
def yQ (a0 : List jA) : Option (List jR) :=
 ((DN a0).bind fun b => ((yB b).bind fun a => wz a b kC ([])))
def xl (a0 : List jA) (b : ByteArray) : Option ((List (jB × (List (ByteArray × Bool)))) × (List jA) × (List (jB × (List jA))) × (List (ByteArray × (List jA))) × (List jR) × Int × ByteArray) :=
 ((um a0).bind fun a => some (a.1, a.2.1, a.2.2.1, a.2.2.2.1, a.2.2.2.2.1, a.2.2.2.2.2, b))
def mM (f1 : kw → Option Bool) : List kw → Nat → Option Int
 | [], _ => some (-1)
 | c :: a, i47 => ((f1 c).bind fun b => (if b then some (i47 : Int) else (mM f1 a (i47 + 1))))
def nW (a0 : List kw) (f1 : kw → Option Bool) : Option Int :=
 mM f1 a0 0
def uR (a0 : kw) (a : jA) : Option Bool :=
 some (kp a0.Signed.jA a)
def xe (a0 : jI) (c : jA) : Option (kw × Bool) :=
 ((nW a0.jV (fun (x : kw) => uR x c)).bind fun a => (if (decide (a < 0)) then some ((⟨(⟨(⟨0, (⟨zS, zS⟩ : jB), zS, (⟨zS, zS⟩ : jB), (⟨zS, zS⟩ : jB), zS⟩ : jA), []⟩ : Signed), (⟨0, 0, (⟨zS, zS⟩ : jB), []⟩ : Formula)⟩ : kw), false) else ((lj a0.jV a).bind fun b => some (b, true))))
def sQ (a0 : List ml) : Option (List ml) :=
 ((mG 128 ([]) a0).bind fun a => some a)
def nn (f1 : ml → Option Bool) : List ml → Nat → Option Int
 | [], _ => some (-1)
 | c :: a, i47 => ((f1 c).bind fun b => (if b then some (i47 : Int) else (nn f1 a (i47 + 1))))
def pk (a0 : List ml) (f1 : ml → Option Bool) : Option Int :=
 nn f1 a0 0
def nf (f1 : ml → Option Bool) : Nat → (List ml) → Int → Int → Option (List ml)
 | 0, _, _, _ => none
 | h + 1, b, a, c => (if (decide (c < (b.length : Int))) then ((((lj b c).bind fun d => ((f1 d).bind fun i => (if (!i) then ((lj b a).bind fun k => some ((b.set (Int.toNat a) d), (IntKind.i64.wrap (a + 1)))) else some (b, a)))) : Option ((List ml) × Int)).bind fun (g, j) => (nf f1 h g j (IntKind.i64.wrap (c + 1)))) else ((qj (decide (0 ≤ a) && decide (a ≤ (b.length : Int)))).bind fun _ => ((qj (decide (0 ≤ a) && decide (a ≤ ((nh b (Int.toNat a) (⟨(⟨zS, zS⟩ : jB), (⟨0, 0, (⟨zS, zS⟩ : jB), []⟩ : Formula), []⟩ : ml)).length : Int)))).bind fun _ => some ((nh b (Int.toNat a) (⟨(⟨zS, zS⟩ : jB), (⟨0, 0, (⟨zS, zS⟩ : jB), []⟩ : Formula), []⟩ : ml)).take (Int.toNat a)))))
def qy (a0 : List ml) (f1 : ml → Option Bool) : Option (List ml) :=
 ((pk a0 f1).bind fun a => (if (a == (-1)) then some a0 else nf f1 kC a0 a (IntKind.i64.wrap (a + 1))))
def qS (a0 : ml) (a : jA) : Option Bool :=
 ((rV a0.lI a).bind fun b => some (!b))
def wC (a0 : jI) (b : jA) : Option (List ml) :=
 ((sQ a0.kx).bind fun c => ((qy c (fun (x : ml) => qS x b)).bind fun a => some a))
def oJ (g : Int) (rec : Formula → Int → Option (Int × Int)) : List Formula → Int → Int → Option (Int × Int)
 | [], a, c => some (a, c)
 | h :: d, a, c => (if (decide (a > g)) then some (a, c) else ((rec h (IntKind.i64.wrap (g - a))).bind fun b => (oJ g rec d (IntKind.i64.wrap (a + b.1)) (if b.2 > c then b.2 else c))))
def ue (rec : Formula → Int → Option (Int × Int)) (a0 : Formula) (c : Int) : Option (Int × Int) :=
 ((oJ c rec a0.Kids 1 0 : Option (Int × Int)).bind fun (a, b) => some (a, (IntKind.i64.wrap (b + 1))))
def nJ : Nat → Formula → Int → Option (Int × Int)
 | 0 => fun _ _ => none
 | n + 1 => ue (nJ n)
def vC (a0 : Formula) : Option (Int × Int) :=
 ((nJ kC a0 4096).bind fun a => (if (decide (a.1 > 4096)) then some (0, 0) else some (a.1, a.2)))
def vx (a0 : Formula) : Option Bool :=
 (if (a0.Op == 1) then ((ob a0.jB).bind fun d => (((if d then some ((a0.Kids.length : Int) == 0) else some false) : Option Bool).bind fun g => (((if g then some (a0.K == 0) else some false) : Option Bool).bind fun h => some h))) else (((if (a0.Op == 2) then some (a0.Op == 2) else some (a0.Op == 3)) : Option Bool).bind fun i => (if i then (((if (kc a0.jB (⟨zS, zS⟩ : jB)) then some (a0.K == 0) else some false) : Option Bool).bind fun j => some j) else (((if (a0.Op == 4) then some (kc a0.jB (⟨zS, zS⟩ : jB)) else some false) : Option Bool).bind fun k => (((if k then some (decide (a0.K ≥ 0)) else some false) : Option Bool).bind fun a => (((if a then some (decide (a0.K ≤ (a0.Kids.length : Int))) else some false) : Option Bool).bind fun b => (((if b then some (decide ((a0.Kids.length : Int) ≥ 1)) else some false) : Option Bool).bind fun c => some c)))))))
def mN (f1 : Formula → Option Bool) : List Formula → Nat → Option Int
 | [], _ => some (-1)
 | c :: a, i41 => ((f1 c).bind fun b => (if b then some (i41 : Int) else (mN f1 a (i41 + 1))))
def rG (a0 : List Formula) (f1 : Formula → Option Bool) : Option Int :=
 mN f1 a0 0
def nu (a0 : List Formula) (f1 : Formula → Option Bool) : Option Bool :=
 ((rG a0 f1).bind fun a => some (decide (a ≥ 0)))
def sR (rec : Formula → Option Bool) (a0 : Formula) : Option Bool :=
 ((rec a0).bind fun a => some (!a))
def ul (rec : Formula → Option Bool) (a0 : Formula) : Option Bool :=
 ((vx a0).bind fun c => (((if c then some (decide ((a0.Kids.length : Int) ≤ 8)) else some false) : Option Bool).bind fun d => (((if d then ((nu a0.Kids (fun (x : Formula) => sR rec x)).bind fun a => some (!a)) else some false) : Option Bool).bind fun b => some b)))
def qb : Nat → Formula → Option Bool
 | 0 => fun _ => none
 | n + 1 => ul (qb n)
def ov (a0 : Formula) : Option Bool :=
 ((vC a0).bind fun b => (((if (decide (b.1 ≥ 1)) then some (decide (b.1 ≤ 64)) else some false) : Option Bool).bind fun g => (((if g then some (decide (b.2 ≤ 6)) else some false) : Option Bool).bind fun c => (((if c then ((qb kC a0).bind fun a => some a) else some false) : Option Bool).bind fun d => some d))))
def sd (a0 : Formula) (a : Int) : Option Bool :=
 (((if (a0.Op == a) then some ((a0.Kids.length : Int) == 0) else some false) : Option Bool).bind fun x6 => some x6)
def xm  : Option Formula :=
 some (⟨2, 0, (⟨zS, zS⟩ : jB), []⟩ : Formula)
def xV  : Option Formula :=
 some (⟨3, 0, (⟨zS, zS⟩ : jB), []⟩ : Formula)
def pG (a0 : Int) : List Formula → (List Formula) → Option (List Formula)
 | [], a => some a
 | b :: c, a => (if (b.Op == a0) then ((mG 72 a b.Kids).bind fun d => (pG a0 c d)) else ((mG 72 a ([b])).bind fun g => (pG a0 c g)))
def yq (a0 : Int) (a : List Formula) : Option (List Formula) :=
 pG a0 a ([])
def pR (a0 : Formula) (a : Int) : Option Bool :=
 ((sd a0 a).bind fun b => some b)
def qY (a0 : List Formula) : Option (List Formula) :=
 ((mG 72 ([]) a0).bind fun a => some a)
def lJ (n : Int) (f3 : (Formula × Formula) → Option Int) : Nat → (List Formula) → Int → Option (List Formula)
 | 0, _, _ => none
 | g + 1, b, a => (((if (decide (a > n)) then ((lj b a).bind fun j => ((lj b (IntKind.i64.wrap (a - 1))).bind fun k => ((f3 (j, k)).bind fun h => some (decide (h < 0))))) else some false) : Option Bool).bind fun i => (if i then ((lj b (IntKind.i64.wrap (a - 1))).bind fun d => ((lj b a).bind fun c => ((lj b a).bind fun l => ((lj (b.set (Int.toNat a) d) (IntKind.i64.wrap (a - 1))).bind fun m => (lJ n f3 g ((b.set (Int.toNat a) d).set (Int.toNat (IntKind.i64.wrap (a - 1))) (⟨c.Op, c.K, c.jB, c.Kids⟩ : Formula)) (IntKind.i64.wrap (a - 1))))))) else some b))
def lu (a2 g : Int) (f3 : (Formula × Formula) → Option Int) : Nat → (List Formula) → Int → Option (List Formula)
 | 0, _, _ => none
 | d + 1, b, a => (if (decide (a < a2)) then ((lJ g f3 kC b a : Option (List Formula)).bind fun c => (lu a2 g f3 d c (IntKind.i64.wrap (a + 1)))) else some b)
def mF (a0 : List Formula) (a a2 : Int) (f3 : (Formula × Formula) → Option Int) : Option (List Formula) :=
 lu a2 a f3 kC a0 (IntKind.i64.wrap (a + 1))
def lX (a3 a2 g : Int) : Nat → (List Formula) → Int → Option (List Formula)
 | 0, _, _ => none
 | h + 1, b, a => (if (decide (a < a3)) then ((lj b (IntKind.i64.wrap (a2 + a))).bind fun d => ((lj b (IntKind.i64.wrap (g + a))).bind fun c => ((lj b (IntKind.i64.wrap (g + a))).bind fun i => ((lj (b.set (Int.toNat (IntKind.i64.wrap (g + a))) d) (IntKind.i64.wrap (a2 + a))).bind fun j => (lX a3 a2 g h ((b.set (Int.toNat (IntKind.i64.wrap (g + a))) d).set (Int.toNat (IntKind.i64.wrap (a2 + a))) (⟨c.Op, c.K, c.jB, c.Kids⟩ : Formula)) (IntKind.i64.wrap (a + 1))))))) else some b)
def mA (a0 : List Formula) (a a2 a3 : Int) (f4 : (Formula × Formula) → Option Int) : Option (List Formula) :=
 lX a3 a2 a kC a0 0
def mj (a2 : Int) (f4 : (Formula × Formula) → Option Int) : Nat → (List Formula) → Int → Int → Option (List Formula)
 | 0, _, _, _ => none
 | n185 + 1, c, a, b => (if (a != b) then (if (decide (a > b)) then ((mA c (IntKind.i64.wrap (a2 - a)) a2 b f4).bind fun d => (mj a2 f4 n185 d (IntKind.i64.wrap (a - b)) b)) else ((mA c (IntKind.i64.wrap (a2 - a)) (IntKind.i64.wrap ((IntKind.i64.wrap (a2 + b)) - a)) a f4).bind fun g => (mj a2 f4 n185 g a (IntKind.i64.wrap (b - a))))) else ((mA c (IntKind.i64.wrap (a2 - a)) a2 a f4).bind fun h => some h))
def mx (a0 : List Formula) (a a2 a3 : Int) (f4 : (Formula × Formula) → Option Int) : Option (List Formula) :=
 mj a2 f4 kC a0 (IntKind.i64.wrap (a2 - a)) (IntKind.i64.wrap (a3 - a2))
def lZ (g : Int) : Nat → (List Formula) → Int → Option (List Formula)
 | 0, _, _ => none
 | h + 1, b, a => (if (decide (a < (IntKind.i64.wrap (g - 1)))) then ((lj b (IntKind.i64.wrap (a + 1))).bind fun d => ((lj b a).bind fun c => ((lj b a).bind fun i => ((lj (b.set (Int.toNat a) d) (IntKind.i64.wrap (a + 1))).bind fun j => (lZ g h ((b.set (Int.toNat a) d).set (Int.toNat (IntKind.i64.wrap (a + 1))) (⟨c.Op, c.K, c.jB, c.Kids⟩ : Formula)) (IntKind.i64.wrap (a + 1))))))) else some b)
def lb (a0 : List Formula) (i : Int) (f4 : (Formula × Formula) → Option Int) : Nat → Int → Int → Option (List Formula)
 | 0, _, _ => none
 | n325 + 1, a, b => (if (decide (a < b)) then ((lj a0 (IntKind.i64.wrap (Int.fdiv (IntKind.u64.wrap (IntKind.i64.wrap (a + b))) (2 ^ min (Int.toNat 1) (IntKind.bits .u64))))).bind fun g => ((lj a0 i).bind fun h => ((f4 (g, h)).bind fun d => (if (decide (d < 0)) then (lb a0 i f4 n325 (IntKind.i64.wrap ((IntKind.i64.wrap (Int.fdiv (IntKind.u64.wrap (IntKind.i64.wrap (a + b))) (2 ^ min (Int.toNat 1) (IntKind.bits .u64)))) + 1)) b) else (lb a0 i f4 n325 a (IntKind.i64.wrap (Int.fdiv (IntKind.u64.wrap (IntKind.i64.wrap (a + b))) (2 ^ min (Int.toNat 1) (IntKind.bits .u64))))))))) else ((lZ a kC a0 i : Option (List Formula)).bind fun c => some c))
def lY (d : Int) : Nat → (List Formula) → Int → Option (List Formula)
 | 0, _, _ => none
 | h + 1, b, a => (if (decide (a > d)) then ((lj b (IntKind.i64.wrap (a - 1))).bind fun g => ((lj b a).bind fun c => ((lj b a).bind fun i => ((lj (b.set (Int.toNat a) g) (IntKind.i64.wrap (a - 1))).bind fun j => (lY d h ((b.set (Int.toNat a) g).set (Int.toNat (IntKind.i64.wrap (a - 1))) (⟨c.Op, c.K, c.jB, c.Kids⟩ : Formula)) (IntKind.i64.wrap (a - 1))))))) else some b)
def la (a0 : List Formula) (a2 : Int) (f4 : (Formula × Formula) → Option Int) : Nat → Int → Int → Option (List Formula)
 | 0, _, _ => none
 | c + 1, a, b => (if (decide (a < b)) then ((lj a0 a2).bind fun h => ((lj a0 (IntKind.i64.wrap (Int.fdiv (IntKind.u64.wrap (IntKind.i64.wrap (a + b))) (2 ^ min (Int.toNat 1) (IntKind.bits .u64))))).bind fun i => ((f4 (h, i)).bind fun g => (if (!(decide (g < 0))) then (la a0 a2 f4 c (IntKind.i64.wrap ((IntKind.i64.wrap (Int.fdiv (IntKind.u64.wrap (IntKind.i64.wrap (a + b))) (2 ^ min (Int.toNat 1) (IntKind.bits .u64)))) + 1)) b) else (la a0 a2 f4 c a (IntKind.i64.wrap (Int.fdiv (IntKind.u64.wrap (IntKind.i64.wrap (a + b))) (2 ^ min (Int.toNat 1) (IntKind.bits .u64))))))))) else ((lY a kC a0 a2 : Option (List Formula)).bind fun d => some d))
def kK (a0 : List Formula) (c a3 a2 : Int) (f4 : (Formula × Formula) → Option Int) (rec : (List Formula) → Int → Int → Int → ((Formula × Formula) → Option Int) → Option (List Formula)) : Nat → Int → Int → Option (List Formula)
 | 0, _, _ => none
 | h + 1, a, b => (if (decide (a < b)) then ((lj a0 (IntKind.i64.wrap ((IntKind.i64.wrap ((IntKind.i64.wrap ((IntKind.i64.wrap (Int.fdiv (IntKind.u64.wrap (IntKind.i64.wrap (c + a3))) (2 ^ min (Int.toNat 1) (IntKind.bits .u64)))) + a2)) - 1)) - (IntKind.i64.wrap (Int.fdiv (IntKind.u64.wrap (IntKind.i64.wrap (a + b))) (2 ^ min (Int.toNat 1) (IntKind.bits .u64))))))).bind fun m => ((lj a0 (IntKind.i64.wrap (Int.fdiv (IntKind.u64.wrap (IntKind.i64.wrap (a + b))) (2 ^ min (Int.toNat 1) (IntKind.bits .u64))))).bind fun n => ((f4 (m, n)).bind fun i => (if (!(decide (i < 0))) then (kK a0 c a3 a2 f4 rec h (IntKind.i64.wrap ((IntKind.i64.wrap (Int.fdiv (IntKind.u64.wrap (IntKind.i64.wrap (a + b))) (2 ^ min (Int.toNat 1) (IntKind.bits .u64)))) + 1)) b) else (kK a0 c a3 a2 f4 rec h a (IntKind.i64.wrap (Int.fdiv (IntKind.u64.wrap (IntKind.i64.wrap (a + b))) (2 ^ min (Int.toNat 1) (IntKind.bits .u64))))))))) else (((((if (decide (a < a2)) then some (decide (a2 < (IntKind.i64.wrap ((IntKind.i64.wrap ((IntKind.i64.wrap (Int.fdiv (IntKind.u64.wrap (IntKind.i64.wrap (c + a3))) (2 ^ min (Int.toNat 1) (IntKind.bits .u64)))) + a2)) - a)))) else some false) : Option Bool).bind fun r => (if r then ((mx a0 a a2 (IntKind.i64.wrap ((IntKind.i64.wrap ((IntKind.i64.wrap (Int.fdiv (IntKind.u64.wrap (IntKind.i64.wrap (c + a3))) (2 ^ min (Int.toNat 1) (IntKind.bits .u64)))) + a2)) - a)) f4).bind fun l => some l) else some a0)) : Option (List Formula)).bind fun d => (((((if (decide (c < a)) then some (decide (a < (IntKind.i64.wrap (Int.fdiv (IntKind.u64.wrap (IntKind.i64.wrap (c + a3))) (2 ^ min (Int.toNat 1) (IntKind.bits .u64)))))) else some false) : Option Bool).bind fun q => (if q then ((rec d c a (IntKind.i64.wrap (Int.fdiv (IntKind.u64.wrap (IntKind.i64.wrap (c + a3))) (2 ^ min (Int.toNat 1) (IntKind.bits .u64)))) f4).bind fun k => some k) else some d)) : Option (List Formula)).bind fun g => (((if (decide ((IntKind.i64.wrap (Int.fdiv (IntKind.u64.wrap (IntKind.i64.wrap (c + a3))) (2 ^ min (Int.toNat 1) (IntKind.bits .u64)))) < (IntKind.i64.wrap ((IntKind.i64.wrap ((IntKind.i64.wrap (Int.fdiv (IntKind.u64.wrap (IntKind.i64.wrap (c + a3))) (2 ^ min (Int.toNat 1) (IntKind.bits .u64)))) + a2)) - a)))) then some (decide ((IntKind.i64.wrap ((IntKind.i64.wrap ((IntKind.i64.wrap (Int.fdiv (IntKind.u64.wrap (IntKind.i64.wrap (c + a3))) (2 ^ min (Int.toNat 1) (IntKind.bits .u64)))) + a2)) - a)) < a3)) else some false) : Option Bool).bind fun o => (if o then ((rec g (IntKind.i64.wrap (Int.fdiv (IntKind.u64.wrap (IntKind.i64.wrap (c + a3))) (2 ^ min (Int.toNat 1) (IntKind.bits .u64)))) (IntKind.i64.wrap ((IntKind.i64.wrap ((IntKind.i64.wrap (Int.fdiv (IntKind.u64.wrap (IntKind.i64.wrap (c + a3))) (2 ^ min (Int.toNat 1) (IntKind.bits .u64)))) + a2)) - a)) a3 f4).bind fun j => some j) else some g)))))
def oB (rec : (List Formula) → Int → Int → Int → ((Formula × Formula) → Option Int) → Option (List Formula)) (a0 : List Formula) (a a2 a3 : Int) (f4 : (Formula × Formula) → Option Int) : Option (List Formula) :=
 (if ((IntKind.i64.wrap (a2 - a)) == 1) then lb a0 a f4 kC a2 a3 else (if ((IntKind.i64.wrap (a3 - a2)) == 1) then la a0 a2 f4 kC a a2 else (((if (decide (a2 > (IntKind.i64.wrap (Int.fdiv (IntKind.u64.wrap (IntKind.i64.wrap (a + a3))) (2 ^ min (Int.toNat 1) (IntKind.bits .u64)))))) then some ((IntKind.i64.wrap ((IntKind.i64.wrap ((IntKind.i64.wrap (Int.fdiv (IntKind.u64.wrap (IntKind.i64.wrap (a + a3))) (2 ^ min (Int.toNat 1) (IntKind.bits .u64)))) + a2)) - a3)), (IntKind.i64.wrap (Int.fdiv (IntKind.u64.wrap (IntKind.i64.wrap (a + a3))) (2 ^ min (Int.toNat 1) (IntKind.bits .u64))))) else some (a, a2)) : Option (Int × Int)).bind fun (b, c) => kK a0 a a3 a2 f4 rec kC b c)))
def lx : Nat → (List Formula) → Int → Int → Int → ((Formula × Formula) → Option Int) → Option (List Formula)
 | 0 => fun _ _ _ _ _ => none
 | n + 1 => oB (lx n)
def mi (i b : Int) (f2 : (Formula × Formula) → Option Int) : Nat → (List Formula) → Int → Int → Option ((List Formula) × Int)
 | 0, _, _, _ => none
 | g + 1, d, c, a => (if (decide (a ≤ i)) then ((lx kC d c (IntKind.i64.wrap (c + b)) a f2).bind fun h => (mi i b f2 g h a (IntKind.i64.wrap (a + (IntKind.i64.wrap (2 * b)))))) else some (d, c))
def lR (j : Int) (f2 : (Formula × Formula) → Option Int) : Nat → (List Formula) → Int → Option (List Formula)
 | 0, _, _ => none
 | h + 1, c, a => (if (decide (a < j)) then ((mi j a f2 kC c 0 (IntKind.i64.wrap (2 * a)) : Option ((List Formula) × Int)).bind fun (d, b) => (((if (decide ((IntKind.i64.wrap (b + a)) < j)) then ((lx kC d b (IntKind.i64.wrap (b + a)) j f2).bind fun i => some i) else some d) : Option (List Formula)).bind fun g => (lR j f2 h g (IntKind.i64.wrap (a * 2))))) else some c)
def lT (i : Int) (f2 : (Formula × Formula) → Option Int) : Nat → (List Formula) → Int → Int → Option (List Formula)
 | 0, _, _, _ => none
 | n123 + 1, c, h, a => (if (decide (a ≤ i)) then ((mF c h a f2).bind fun d => (lT i f2 n123 d a (IntKind.i64.wrap (a + 20)))) else ((mF c h i f2).bind fun g => ((lR i f2 kC g 20 : Option (List Formula)).bind fun b => some b)))
def qi (a0 : List Formula) (a : Int) (f2 : (Formula × Formula) → Option Int) : Option (List Formula) :=
 lT a f2 kC a0 0 20
def oh (a0 : List Formula) (f1 : (Formula × Formula) → Option Int) : Option (List Formula) :=
 ((qi a0 (a0.length : Int) f1).bind fun a => some a)
def pI (rec : (List Int) → Formula → Option (List Int)) : List Formula → (List Int) → Option (List Int)
 | [], a => some a
 | d :: b, a => ((rec a d).bind fun c => (pI rec b c))
def ui (rec : (List Int) → Formula → Option (List Int)) (b : List Int) (a : Formula) : Option (List Int) :=
 ((nx b a.Op).bind fun h => (if (a.Op == 1) then ((pq h.2 a.jB).bind fun g => some g.2) else (((if (a.Op == 4) then ((nx h.2 a.K).bind fun c => some c.2) else some h.2) : Option (List Int)).bind fun d => ((nx d (a.Kids.length : Int)).bind fun i => pI rec a.Kids i.2))))
def pd : Nat → (List Int) → Formula → Option (List Int)
 | 0 => fun _ _ => none
 | n + 1 => ui (pd n)
def uQ (a : List Int) (b : Formula) : Option (Bool × (List Int)) :=
 ((ov b).bind fun c => (if (!c) then some (false, a) else ((pd kC a b).bind fun d => some (true, d))))
def rJ (a0 : Formula) : Option (List Int) :=
 ((uQ ([]) a0).bind fun b => ((sy b.2).bind fun a => some a))
def rL (a0 d : Formula) : Option Int :=
 ((rJ a0).bind fun a => ((rJ d).bind fun b => ((uT a b).bind fun c => some c)))
def tH (a0 : List Formula) : Option (List Formula) :=
 ((qY a0).bind fun b => ((oh b (fun (x : (Formula × Formula)) => rL x.1 x.2)).bind fun a => some a))
def mu (b : Int) (f1 : (Formula × Formula) → Option Bool) : Nat → (List Formula) → Int → Int → Option ((List Formula) × Int)
 | 0, _, _, _ => none
 | h + 1, a, c, d => (if (decide (d < ((a.length - (Int.toNat b) : Nat) : Int))) then ((((lj (a.drop (Int.toNat b)) d).bind fun k => ((lj (a.drop (Int.toNat b)) (IntKind.i64.wrap (d - 1))).bind fun l => ((f1 (k, l)).bind fun i => (if (!i) then ((lj (a.drop (Int.toNat b)) d).bind fun m => ((lj a c).bind fun n => some ((a.set (Int.toNat c) m), (IntKind.i64.wrap (c + 1))))) else some (a, c))))) : Option ((List Formula) × Int)).bind fun (g, j) => (mu b f1 h g j (IntKind.i64.wrap (d + 1)))) else some (a, c))
def mr (a0 : List Formula) (f1 : (Formula × Formula) → Option Bool) : Nat → Int → Option (List Formula)
 | 0, _ => none
 | d + 1, a => (if (decide (a < (a0.length : Int))) then ((lj a0 a).bind fun h => ((lj a0 (IntKind.i64.wrap (a - 1))).bind fun i => ((f1 (h, i)).bind fun g => (if g then ((qj (decide (0 ≤ a) && decide (a ≤ (a0.length : Int)))).bind fun _ => ((mu a f1 kC a0 a 1 : Option ((List Formula) × Int)).bind fun (c, b) => ((qj (decide (0 ≤ b) && decide (b ≤ (c.length : Int)))).bind fun _ => ((qj (decide (0 ≤ b) && decide (b ≤ ((nh c (Int.toNat b) (⟨0, 0, (⟨zS, zS⟩ : jB), []⟩ : Formula)).length : Int)))).bind fun _ => some ((nh c (Int.toNat b) (⟨0, 0, (⟨zS, zS⟩ : jB), []⟩ : Formula)).take (Int.toNat b)))))) else (mr a0 f1 d (IntKind.i64.wrap (a + 1))))))) else some a0)
def oV (a0 : List Formula) (f1 : (Formula × Formula) → Option Bool) : Option (List Formula) :=
 (if (decide ((a0.length : Int) < 2)) then some a0 else mr a0 f1 kC 1)
def kZ (g : List Formula) (f2 : (Formula × Formula) → Option Bool) : List Formula → Nat → Option Bool
 | [], _ => some true
 | d :: c, i95 => ((lj g (i95 : Int)).bind fun b => ((f2 (d, b)).bind fun a => (if (!a) then some false else (kZ g f2 c (i95 + 1)))))
def ms (a0 a : List Formula) (f2 : (Formula × Formula) → Option Bool) : Option Bool :=
 (if ((a0.length : Int) != (a.length : Int)) then some false else kZ a f2 a0 0)
def uH (rec : Formula → Formula → Option Bool) (a0 a : Formula) : Option Bool :=
 (((if (a0.Op == a.Op) then some (a0.K == a.K) else some false) : Option Bool).bind fun c => (((if c then some (kc a0.jB a.jB) else some false) : Option Bool).bind fun d => (((if d then ((ms a0.Kids a.Kids (fun (x : (Formula × Formula)) => rec x.1 x.2)).bind fun b => some b) else some false) : Option Bool).bind fun g => some g)))
def nI : Nat → Formula → Formula → Option Bool
 | 0 => fun _ _ => none
 | n + 1 => uH (nI n)
def nA (a0 : kD) (c : Int) (a2 : List Formula) : Option (Formula × kD) :=
 ((yq c a2).bind fun i => ((nu i (fun (x : Formula) => pR x (IntKind.i64.wrap (5 - c)))).bind fun d => (if d then some ((⟨(IntKind.i64.wrap (5 - c)), 0, (⟨zS, zS⟩ : jB), []⟩ : Formula), a0) else ((tH i).bind fun g => ((oV g (fun (x : (Formula × Formula)) => nI kC x.1 x.2)).bind fun a => (((if (decide ((a.length : Int) > 64)) then some (⟨12⟩ : kD) else some a0) : Option kD).bind fun b => (if ((a.length : Int) == 1) then ((lj a 0).bind fun h => some (h, b)) else some ((⟨c, 0, (⟨zS, zS⟩ : jB), a⟩ : Formula), b))))))))
def mq (a0 : kD) : List Formula → Int → (List Formula) → Option (Formula × kD)
 | [], b, a => (if (decide (b ≤ 0)) then (xm.bind fun l => some (l, a0)) else (if (decide (b > (a.length : Int))) then (xV.bind fun m => some (m, a0)) else (if (b == (a.length : Int)) then ((nA a0 2 a).bind fun g => some (g.1, g.2)) else (if (b == 1) then ((nA a0 3 a).bind fun h => some (h.1, h.2)) else ((tH a).bind fun n => some ((⟨4, b, (⟨zS, zS⟩ : jB), n⟩ : Formula), a0))))))
 | d :: c, b, a => ((sd d 2).bind fun j => (if j then (mq a0 c (IntKind.i64.wrap (b - 1)) a) else ((sd d 3).bind fun k => (if (!k) then ((mG 72 a ([d])).bind fun i => (mq a0 c b i)) else (mq a0 c b a)))))
def pQ (a0 : kD) (a : Int) (a2 : List Formula) : Option (Formula × kD) :=
 mq a0 a2 a ([])
def ng (rec : kD → Formula → Option (Formula × kD)) (k : Formula) : List Formula → (List Formula) → kD → Option (Formula × kD)
 | [], a, b => (if (k.Op == 4) then ((pQ b k.K a).bind fun d => some (d.1, d.2)) else ((nA b k.Op a).bind fun g => some (g.1, g.2)))
 | j :: h, a, b => ((rec b j).bind fun c => ((mG 72 a ([c.1])).bind fun i => (ng rec k h i c.2)))
def qK (rec : kD → Formula → Option (Formula × kD)) (a0 : kD) (a : Formula) : Option (Formula × kD) :=
 (if (a.Op == 1) then some (a, a0) else ng rec a a.Kids ([]) a0)
def mK : Nat → kD → Formula → Option (Formula × kD)
 | 0 => fun _ _ => none
 | n + 1 => qK (mK n)
def wi (a0 : Formula) : Option (Formula × Int) :=
 ((ov a0).bind fun d => (if (!d) then some ((⟨0, 0, (⟨zS, zS⟩ : jB), []⟩ : Formula), 11) else ((mK kC (⟨0⟩ : kD) a0).bind fun a => (((if (a.2.e != 0) then some true else ((ov a.1).bind fun b => some (!b))) : Option Bool).bind fun c => (if c then some ((⟨0, 0, (⟨zS, zS⟩ : jB), []⟩ : Formula), 12) else some (a.1, 0))))))
def wq (a0 b : Formula) : Option (Formula × Int) :=
 ((wi (⟨2, 0, (⟨zS, zS⟩ : jB), [a0, b]⟩ : Formula)).bind fun a => some (a.1, a.2))
def sb  : List Formula → Int → Int → Int → jB → (List Formula) → Option (Int × Int × Int × jB × (List Formula))
 | [], c, d, g, h, b => some (c, d, g, h, b)
 | j :: i, c, d, g, h, b => (if (c != 0) then some (c, d, g, h, b) else ((wq (⟨d, g, h, b⟩ : Formula) j).bind fun a => (sb i a.2 ((a.1).Op) ((a.1).K) ((a.1).jB) ((a.1).Kids))))
def uC (a0 : List Formula) : Option (Formula × Int) :=
 ((lj a0 0).bind fun x6 => ((wi x6).bind fun a => ((qj (decide (0 ≤ 1) && decide (1 ≤ (a0.length : Int)))).bind fun _ => ((sb (a0.drop (Int.toNat 1)) a.2 ((a.1).Op) ((a.1).K) ((a.1).jB) ((a.1).Kids) : Option (Int × Int × Int × jB × (List Formula))).bind fun (b, d, g, h, c) => (if (b != 0) then some ((⟨0, 0, (⟨zS, zS⟩ : jB), []⟩ : Formula), b) else some ((⟨d, g, h, c⟩ : Formula), 0))))))
def sK  : List ml → (List Formula) → Option (Formula × Int)
 | [], a => ((uC a).bind fun b => some (b.1, b.2))
 | g :: c, a => ((mG 72 a ([g.jL])).bind fun d => (sK c d))
def vM (a0 : jI) (c : jA) : Option (Formula × Int) :=
 ((xe a0 c).bind fun a => (if (!a.2) then some ((⟨0, 0, (⟨zS, zS⟩ : jB), []⟩ : Formula), 42) else ((wC a0 c).bind fun b => sK b ([(a.1).jL]))))
def oI (rec : Formula → (jB → Option Bool) → Option Bool) (f1 : jB → Option Bool) (a0 : Formula) : List Formula → Int → Option Bool
 | [], a => (if (a0.Op == 2) then some (a == (a0.Kids.length : Int)) else (if (a0.Op == 3) then some (decide (a > 0)) else some (decide (a ≥ a0.K))))
 | d :: b, a => ((rec d f1).bind fun c => (if c then (oI rec f1 a0 b (IntKind.i64.wrap (a + 1))) else (oI rec f1 a0 b a)))
def uf (rec : Formula → (jB → Option Bool) → Option Bool) (a0 : Formula) (f1 : jB → Option Bool) : Option Bool :=
 (if (a0.Op == 1) then ((f1 a0.jB).bind fun a => some a) else oI rec f1 a0 a0.Kids 0)
def pe : Nat → Formula → (jB → Option Bool) → Option Bool
 | 0 => fun _ _ => none
 | n + 1 => uf (pe n)
def sa (a0 : Formula) (f1 : jB → Option Bool) : Option Bool :=
 ((ov a0).bind fun c => (((if c then ((pe kC a0 f1).bind fun a => some a) else some false) : Option Bool).bind fun b => some b))
def rz (a0 : jB) (g : List (jB × (List (ByteArray × Bool)))) (a : List jA) (d : List (jB × (List jA))) (b : List (ByteArray × (List jA))) (c : List jR) (h : Int) (c1 : ByteArray) : Option Bool :=
 ((qU g a d b c h a0 c1).bind fun i => some i)
def pX (a0 : jI) (c : ((List (jB × (List (ByteArray × Bool)))) × (List jA) × (List (jB × (List jA))) × (List (ByteArray × (List jA))) × (List jR) × Int × ByteArray)) : List kw → (List jA) → Option (List jA)
 | [], a => ((oW a).bind fun i => some i)
 | d :: b, a => ((vM a0 d.Signed.jA).bind fun r417 => (((if (r417.2 == 0) then ((sa r417.1 (fun (x : jB) => rz x c.1 c.2.1 c.2.2.1 c.2.2.2.1 c.2.2.2.2.1 c.2.2.2.2.2.1 c.2.2.2.2.2.2)).bind fun h => some h) else some false) : Option Bool).bind fun j => (if j then ((mG 136 a ([d.Signed.jA])).bind fun g => (pX a0 c b g)) else (pX a0 c b a))))
def pn (a0 : jI) (a : List jA) (a2 : ByteArray) : Option (List jA) :=
 ((xl a a2).bind fun b => pX a0 b a0.jV ([]))
def AL (a0 j : jI) : Nat → (List jA) → (List jA) → Int → Option ((List jA) × (List jA) × Int)
 | 0, _, _, _ => none
 | h + 1, a, b, g => ((pn a0 b j.Name).bind fun c => ((pn j a a0.Name).bind fun d => (((if ((c.length : Int) == (a.length : Int)) then some ((d.length : Int) == (b.length : Int)) else some false) : Option Bool).bind fun i => (if i then some (a, b, g) else (AL a0 j h c d (IntKind.i64.wrap (g + 1)))))))
def Io (a0 a : jI) : Option ((List jA) × (List jA) × Int) :=
 AL a0 a kC ([]) ([]) 0
def qR (rec : (List Formula) → Option Int) : List Formula → Int → Option Int
 | [], b => some b
 | a :: d, b => ((rec a.Kids).bind fun c => (qR rec d (IntKind.i64.wrap (b + (IntKind.i64.wrap ((IntKind.i64.wrap (1 + (IntKind.i64.wrap (Int.tdiv (IntKind.i64.wrap ((a.jB.jF.size : Int) + (a.jB.jK.size : Int))) 16)))) + c))))))
def uW (rec : (List Formula) → Option Int) (a0 : List Formula) : Option Int :=
 qR rec a0 0
def oR : Nat → (List Formula) → Option Int
 | 0 => fun _ => none
 | n + 1 => uW (oR n)
def qM  : List ml → Int → Option Int
 | [], b => some b
 | a :: c, b => ((oR kC ([a.jL])).bind fun d => ((py a.lI).bind fun g => (qM c (IntKind.i64.wrap (b + (IntKind.i64.wrap ((IntKind.i64.wrap ((IntKind.i64.wrap ((a.jB.jF.size : Int) + (a.jB.jK.size : Int))) + (IntKind.i64.wrap (20 * d)))) + g)))))))
def qI (a0 : jI) : List kw → Int → Option Int
 | [], a => ((qM a0.kx a : Option Int).bind fun c => some c)
 | b :: d, a => ((((wD ([]) ([b.Signed])).bind fun i => some (i, ([b.jL]))) : Option (Int × (List Formula))).bind fun (j, g) => ((oR kC g).bind fun h => (qI a0 d (IntKind.i64.wrap (a + (IntKind.i64.wrap (j + (IntKind.i64.wrap (20 * h)))))))))
def wo (a0 : jI) : Option Int :=
 qI a0 a0.jV (a0.Name.size : Int)
def GA (a0 c : jI) : Option ((List jA) × (List (jB × (List (ByteArray × Bool)))) × (List jA) × (List (jB × (List jA))) × (List (ByteArray × (List jA))) × (List jR) × Int × ByteArray) :=
 ((Io a0 c).bind fun b => ((um b.2.1).bind fun a => some (b.2.1, a.1, a.2.1, a.2.2.1, a.2.2.2.1, a.2.2.2.2.1, a.2.2.2.2.2, c.Name)))
def Ez (a0 : jB) (g : List (jB × (List (ByteArray × Bool)))) (a : List jA) (d : List (jB × (List jA))) (b : List (ByteArray × (List jA))) (c : List jR) (i : Int) (h : ByteArray) (j : List kw) (k : List ml) : Option Bool :=
 ((qU g a d b c i a0 h).bind fun l => some l)
def Fk (a0 b : jI) (a2 : Formula) : Option Bool :=
 ((GA a0 b).bind fun a => ((sa a2 (fun (x : jB) => Ez x a.2.1 a.2.2.1 a.2.2.2.1 a.2.2.2.2.1 a.2.2.2.2.2.1 a.2.2.2.2.2.2.1 a.2.2.2.2.2.2.2 b.jV b.kx)).bind fun c => some c))
def pP (a0 : List ml) (f1 : ml → Option Bool) : Option Bool :=
 ((pk a0 f1).bind fun a => some (decide (a ≥ 0)))
def uO (a0 : ml) : Option Bool :=
 some (decide ((a0.lI.length : Int) > 32))
def xr (a0 : jI) : Option Bool :=
 (((if (decide ((a0.jV.length : Int) > 256)) then some true else some (decide ((a0.kx.length : Int) > 8))) : Option Bool).bind fun x8 => (((if x8 then some true else ((pP a0.kx (fun (x : ml) => uO x)).bind fun a => some a)) : Option Bool).bind fun b => some b))
def ph (d : List jA) : List jA → Nat → Option Bool
 | [], _ => some true
 | c :: b, i90 => ((lj d (i90 : Int)).bind fun a => (if (!(kp c a)) then some false else (ph d b (i90 + 1))))
def ou (a0 a : List jA) : Option Bool :=
 (if ((a0.length : Int) != (a.length : Int)) then some false else ph a a0 0)
def tI (a0 : List jA) : Option Bool :=
 ((oW a0).bind fun b => ((ou b a0).bind fun a => some a))
def qJ  : List kw → (List jA) → Option Bool
 | [], a => ((tI a).bind fun h => some h)
 | b :: c, a => (((if ((b.Signed.Tag.length : Int) != 8) then some true else ((ov b.jL).bind fun g => some (!g))) : Option Bool).bind fun i => (if i then some false else ((mG 136 a ([b.Signed.jA])).bind fun d => (qJ c d))))
def yx (a0 : jI) : Option Bool :=
 qJ a0.jV ([])
def rA (a0 : List ml) : List ml → Nat → Option Bool
 | [], _ => some true
 | a :: c, b => ((ob a.jB).bind fun d => (((if (!d) then some true else ((ov a.jL).bind fun i => some (!i))) : Option Bool).bind fun j => (((if j then some true else ((tI a.lI).bind fun h => some (!h))) : Option Bool).bind fun k => (((if k then some true else (((if (decide ((b : Int) > 0)) then ((lj a0 (IntKind.i64.wrap ((b : Int) - 1))).bind fun n => ((nc n.jB a.jB).bind fun g => some (decide (g ≥ 0)))) else some false) : Option Bool).bind fun m => some m)) : Option Bool).bind fun l => (if l then some false else (rA a0 c (b + 1)))))))
def zA (a0 : List ml) : Option Bool :=
 rA a0 a0 0
def oG (a0 : List kw) (f1 : kw → Option Bool) : Option Bool :=
 ((nW a0 f1).bind fun a => some (decide (a ≥ 0)))
def tF (a0 : kw) (c : ByteArray) (a : List kw) (b : List ml) : Option Bool :=
 ((vM (⟨c, a, b⟩ : jI) a0.Signed.jA).bind fun d => some (d.2 != 0))
def vr (a0 : jI) : Option Bool :=
 ((oG a0.jV (fun (x : kw) => tF x a0.Name a0.jV a0.kx)).bind fun a => some (!a))
def uq (a0 : jI) : Option Int :=
 ((nY a0.Name).bind fun i => (if (!i) then some 30 else ((xr a0).bind fun a => (if a then some 12 else ((yx a0).bind fun b => (((if (!b) then some true else ((zA a0.kx).bind fun d => some (!d))) : Option Bool).bind fun g => (((if g then some true else ((vr a0).bind fun c => some (!c))) : Option Bool).bind fun h => (if h then some 11 else some 0))))))))
def ve (a0 : jI) (g : ByteArray) (a2 : Int) : Option (lP × Int) :=
 ((uq a0).bind fun c => (((if (c != 0) then some c else ((nY g).bind fun b => (if (!b) then some 30 else (((if (decide (a2 < 0)) then some true else some (decide (a2 > 256))) : Option Bool).bind fun d => (if d then some 2 else some c))))) : Option Int).bind fun a => (if (a != 0) then some ((⟨(⟨zS, [], []⟩ : jI), zS, 0, [], [], [], []⟩ : lP), a) else some ((⟨a0, g, a2, [], [], [], []⟩ : lP), 0))))
def vz (a0 : jA) (d : ByteArray) (b : List kw) (c : List ml) (j : ByteArray) (k : Int) (g a : List jA) (h i : List jB) : Option Bool :=
 ((rV a a0).bind fun l => some l)
def vX (a0 : lP) : Option (List jA) :=
 ((pn a0.jI a0.jU a0.lG).bind fun a => ((oM a (fun (x : jA) => vz x a0.jI.Name a0.jI.jV a0.jI.kx a0.lG a0.Room a0.jU a0.Shown a0.kq a0.lc)).bind fun b => some b))
def qv (a0 : lP) : Option (List jA) :=
 ((vX a0).bind fun a => ((qj (decide (0 ≤ (if 8 < (a.length : Int) then 8 else (a.length : Int))) && decide ((if 8 < (a.length : Int) then 8 else (a.length : Int)) ≤ (a.length : Int)))).bind fun _ => some (a.take (Int.toNat (if 8 < (a.length : Int) then 8 else (a.length : Int))))))
def re (a0 : lP) : Option Bool :=
 ((qv a0).bind fun a => some ((a.length : Int) == 0))
def sc (c : jA) : List kw → Option (Signed × Bool)
 | [] => some ((⟨(⟨0, (⟨zS, zS⟩ : jB), zS, (⟨zS, zS⟩ : jB), (⟨zS, zS⟩ : jB), zS⟩ : jA), []⟩ : Signed), false)
 | a :: b => (if (kp a.Signed.jA c) then some (a.Signed, true) else (sc c b))
def vZ (a0 : jI) (a : jA) : Option (Signed × Bool) :=
 sc a a0.jV
def CK (a0 : lP) : Option ((List (jB × (List (ByteArray × Bool)))) × (List jA) × (List (jB × (List jA))) × (List (ByteArray × (List jA))) × (List jR) × Int × ByteArray × ByteArray × Int) :=
 ((um a0.jU).bind fun a => some (a.1, a.2.1, a.2.2.1, a.2.2.2.1, a.2.2.2.2.1, a.2.2.2.2.2, a0.jI.Name, a0.lG, a0.Room))
def xw (a0 : jB) (h : List (jB × (List (ByteArray × Bool)))) (a : List jA) (d : List (jB × (List jA))) (b : List (ByteArray × (List jA))) (c : List jR) (m : Int) (j : ByteArray) (g : List kw) (i : List ml) (k : ByteArray) (r : Int) (l q : List jA) (n o : List jB) : Option Bool :=
 ((qU h a d b c m a0 k).bind fun s => some s)
def xv (a0 : lP) (g : jA) : Option Bool :=
 ((vM a0.jI g).bind fun b => (((if (b.2 == 0) then ((CK a0).bind fun a => ((sa b.1 (fun (x : jB) => xw x a.1 a.2.1 a.2.2.1 a.2.2.2.1 a.2.2.2.2.1 a.2.2.2.2.2.1 a.2.2.2.2.2.2.1 a0.jI.jV a0.jI.kx a.2.2.2.2.2.2.2.1 a.2.2.2.2.2.2.2.2 a0.jU a0.Shown a0.kq a0.lc)).bind fun c => some c)) else some false) : Option Bool).bind fun d => some d))
def qn (a0 : lP) : List jA → Option (Int ⊕ Unit)
 | [] => some (Sum.inr ())
 | c :: a => ((xv a0 c).bind fun b => (if (!b) then some (Sum.inl 44) else (qn a0 a)))
def qo (a0 : lP) (g : List jA) : List jA → Option Int
 | [] => ((qn a0 g : Option (Int ⊕ Unit)).bind fun s => match s with | .inl b => some b | .inr _ => some 0)
 | d :: a => ((vZ a0.jI d).bind fun c => (if (!c.2) then some 42 else (qo a0 g a)))
def xP (a0 : lP) (a : List jA) : Option Int :=
 (if (decide ((a.length : Int) > 8)) then some 12 else qo a0 a a)
def sF (a0 : List Int) : Option (List Int) :=
 ((mG 1 ([]) a0).bind fun a => some a)
def rb (b : Int) : Option (List jA) :=
 (if (decide (b < 0)) then none else (((if (decide ((IntKind.i64.wrap (b - (IntKind.i64.wrap (0 - 0)))) > 0)) then ((EP 136 (⟨0, (⟨zS, zS⟩ : jB), zS, (⟨zS, zS⟩ : jB), (⟨zS, zS⟩ : jB), zS⟩ : jA) (IntKind.i64.wrap (b - (IntKind.i64.wrap (0 - 0))))).bind fun a => ((qj (decide (0 ≤ 0) && decide (0 ≤ (a.length : Int)))).bind fun _ => some (a.take (Int.toNat 0)))) else some ([])) : Option (List jA)).bind fun c => some c))
def nS  : List (List jA) → (List jA) → Option (List jA)
 | [], a => some a
 | d :: b, a => ((mG 136 a d).bind fun c => (nS b c))
def nP (a0 : List (List jA)) : List (List jA) → Int → Option (List jA)
 | [], a => ((rb a).bind fun g => ((nS a0 g : Option (List jA)).bind fun b => some b))
 | c :: d, a => (if (decide ((IntKind.i64.wrap (a + (c.length : Int))) < 0)) then none else (nP a0 d (IntKind.i64.wrap (a + (c.length : Int)))))
def qa (a0 : List (List jA)) : Option (List jA) :=
 nP a0 a0 0
def pf (a0 : lP) (q : List jA) : List jA → (List Signed) → Option ((List Signed) × Int × lP)
 | [], a => ((qa ([a0.Shown, q])).bind fun h => ((oW h).bind fun i => some (a, 0, (⟨(⟨a0.jI.Name, a0.jI.jV, a0.jI.kx⟩ : jI), a0.lG, a0.Room, a0.jU, i, a0.kq, a0.lc⟩ : lP))))
 | l :: k, a => ((((vZ a0.jI l).bind fun b => some (((b.1).jA), ((b.1).Tag), b.2, (⟨0, (⟨zS, zS⟩ : jB), zS, (⟨zS, zS⟩ : jB), (⟨zS, zS⟩ : jB), zS⟩ : jA), ([]))) : Option (jA × (List Int) × Bool × jA × (List Int))).bind fun (j, c, n, o, m) => ((sF c).bind fun g => ((mG 160 a ([(⟨j, g⟩ : Signed)])).bind fun d => (pf a0 q k d))))
def ud (a0 : lP) (a : List jA) : Option ((List Signed) × Int × lP) :=
 ((xP a0 a).bind fun b => (if (b != 0) then some ([], b, a0) else ((oW a).bind fun c => pf a0 a c ([]))))
def qQ (a0 : lP) : Option (vo × Int × lP) :=
 ((qv a0).bind fun b => ((ud (⟨(⟨a0.jI.Name, a0.jI.jV, a0.jI.kx⟩ : jI), a0.lG, a0.Room, a0.jU, a0.Shown, a0.kq, a0.lc⟩ : lP) b).bind fun a => (if (a.2.1 != 0) then some ((⟨0, 0, 0, zS, [], []⟩ : vo), a.2.1, a.2.2) else some ((⟨2, 0, 0, zS, [], a.1⟩ : vo), 0, a.2.2))))
def zd  : Option (vo × Int) :=
 some ((⟨0, 0, 0, zS, [], []⟩ : vo), 1)
def uE (a0 : vo) : Option Bool :=
 (((if (a0.Kind == 2) then some ((IntKind.i64.wrap ((a0.oF.length : Int) + (a0.ns.length : Int))) == 0) else some false) : Option Bool).bind fun x8 => some x8)
def ur  : Option Bool :=
 ((((CY 1 0 8).bind fun i => some ((⟨#[109, 101]⟩ : ByteArray), ([(⟨(⟨(⟨1, (⟨(⟨#[120]⟩ : ByteArray), (⟨#[121]⟩ : ByteArray)⟩ : jB), (⟨#[109, 101]⟩ : ByteArray), (⟨zS, zS⟩ : jB), (⟨zS, zS⟩ : jB), zS⟩ : jA), i⟩ : Signed), (⟨2, 0, (⟨zS, zS⟩ : jB), []⟩ : Formula)⟩ : kw)]), ([]), zS, ([]), ([]))) : Option (ByteArray × (List kw) × (List ml) × ByteArray × (List kw) × (List ml))).bind fun (n, g, h, D, z, A) => ((ve (⟨n, g, h⟩ : jI) (⟨#[121, 111, 117]⟩ : ByteArray) 9).bind fun a => ((qv a.1).bind fun d => ((re a.1).bind fun j => ((qQ a.1).bind fun b => ((qQ b.2.2).bind fun c => (zd.bind fun k => (((if (a.2 == 0) then some ((d.length : Int) == 1) else some false) : Option Bool).bind fun o => (((if o then ((lj d 0).bind fun y => some (kp y (⟨1, (⟨(⟨#[120]⟩ : ByteArray), (⟨#[121]⟩ : ByteArray)⟩ : jB), (⟨#[109, 101]⟩ : ByteArray), (⟨zS, zS⟩ : jB), (⟨zS, zS⟩ : jB), zS⟩ : jA))) else some false) : Option Bool).bind fun q => (((if q then some (!j) else some false) : Option Bool).bind fun r => (((if r then some (b.2.1 == 0) else some false) : Option Bool).bind fun s => (((if s then some ((((b.1).ns).length : Int) == 1) else some false) : Option Bool).bind fun t => (((if t then some (c.2.1 == 0) else some false) : Option Bool).bind fun u => (((if u then ((uE c.1).bind fun m => some m) else some false) : Option Bool).bind fun v => (((if v then some (k.2 == 1) else some false) : Option Bool).bind fun w => (((if w then ((re c.2.2).bind fun l => some l) else some false) : Option Bool).bind fun x => some x))))))))))))))))
def qT  : List jB → Int → Option Int
 | [], a => some a
 | b :: c, a => (qT c (IntKind.i64.wrap (a + (IntKind.i64.wrap ((IntKind.i64.wrap (5 + (b.jF.size : Int))) + (b.jK.size : Int))))))
def wF (a0 : lP) : Option Int :=
 ((wo a0.jI).bind fun c => ((py a0.jU).bind fun d => ((py a0.Shown).bind fun g => ((mG 32 ([]) a0.kq).bind fun a => ((mG 32 a a0.lc).bind fun b => qT b (IntKind.i64.wrap ((IntKind.i64.wrap ((IntKind.i64.wrap (c + (a0.lG.size : Int))) + d)) + g)))))))
def qG (a0 : List jB) : Option (List jB) :=
 ((mG 32 ([]) a0).bind fun a => some a)
def nX (f1 : jB → Option Bool) : List jB → Nat → Option Int
 | [], _ => some (-1)
 | c :: a, i35 => ((f1 c).bind fun b => (if b then some (i35 : Int) else (nX f1 a (i35 + 1))))
def sH (a0 : List jB) (f1 : jB → Option Bool) : Option Int :=
 nX f1 a0 0
def mW (f1 : jB → Option Bool) : Nat → (List jB) → Int → Int → Option (List jB)
 | 0, _, _, _ => none
 | n321 + 1, b, a, c => (if (decide (c < (b.length : Int))) then ((((lj b c).bind fun d => ((f1 d).bind fun h => (if (!h) then ((lj b a).bind fun j => some ((b.set (Int.toNat a) d), (IntKind.i64.wrap (a + 1)))) else some (b, a)))) : Option ((List jB) × Int)).bind fun (g, i) => (mW f1 n321 g i (IntKind.i64.wrap (c + 1)))) else ((qj (decide (0 ≤ a) && decide (a ≤ (b.length : Int)))).bind fun _ => ((qj (decide (0 ≤ a) && decide (a ≤ ((nh b (Int.toNat a) (⟨zS, zS⟩ : jB)).length : Int)))).bind fun _ => some ((nh b (Int.toNat a) (⟨zS, zS⟩ : jB)).take (Int.toNat a)))))
def qc (a0 : List jB) (f1 : jB → Option Bool) : Option (List jB) :=
 ((sH a0 f1).bind fun a => (if (a == (-1)) then some a0 else mW f1 kC a0 a (IntKind.i64.wrap (a + 1))))
def wv (a0 : jB) : Option Bool :=
 ((ob a0).bind fun a => some (!a))
def nD (b : Int) : Nat → (List jB) → Int → Int → Option ((List jB) × Int)
 | 0, _, _, _ => none
 | h + 1, a, c, d => (if (decide (d < ((a.length - (Int.toNat b) : Nat) : Int))) then ((((lj (a.drop (Int.toNat b)) d).bind fun j => ((lj (a.drop (Int.toNat b)) (IntKind.i64.wrap (d - 1))).bind fun k => (if (!(kc j k)) then ((lj (a.drop (Int.toNat b)) d).bind fun l => ((lj a c).bind fun m => some ((a.set (Int.toNat c) l), (IntKind.i64.wrap (c + 1))))) else some (a, c)))) : Option ((List jB) × Int)).bind fun (g, i) => (nD b h g i (IntKind.i64.wrap (d + 1)))) else some (a, c))
def nE (a0 : List jB) : Nat → Int → Option (List jB)
 | 0, _ => none
 | d + 1, a => (if (decide (a < (a0.length : Int))) then ((lj a0 a).bind fun g => ((lj a0 (IntKind.i64.wrap (a - 1))).bind fun h => (if (kc g h) then ((qj (decide (0 ≤ a) && decide (a ≤ (a0.length : Int)))).bind fun _ => ((nD a kC a0 a 1 : Option ((List jB) × Int)).bind fun (c, b) => ((qj (decide (0 ≤ b) && decide (b ≤ (c.length : Int)))).bind fun _ => ((qj (decide (0 ≤ b) && decide (b ≤ ((nh c (Int.toNat b) (⟨zS, zS⟩ : jB)).length : Int)))).bind fun _ => some ((nh c (Int.toNat b) (⟨zS, zS⟩ : jB)).take (Int.toNat b)))))) else (nE a0 d (IntKind.i64.wrap (a + 1)))))) else some a0)
def rq (a0 : List jB) : Option (List jB) :=
 (if (decide ((a0.length : Int) < 2)) then some a0 else nE a0 kC 1)
def sS (a0 : List jB) : Option (List jB) :=
 ((qG a0).bind fun d => ((qc d (fun (x : jB) => wv x)).bind fun a => ((wE (fun (x : (jB × jB)) => nc x.1 x.2) a).bind fun b => ((rq b).bind fun c => some c))))
def ol (d : List jB) : List jB → Nat → Option Bool
 | [], _ => some true
 | c :: b, i90 => ((lj d (i90 : Int)).bind fun a => (if (!(kc c a)) then some false else (ol d b (i90 + 1))))
def nw (a0 a : List jB) : Option Bool :=
 (if ((a0.length : Int) != (a.length : Int)) then some false else ol a a0 0)
def xW (a0 : lP) : Option Bool :=
 ((oW a0.jU).bind fun a => ((ou a a0.jU).bind fun b => (((if b then ((oW a0.Shown).bind fun i => ((ou i a0.Shown).bind fun j => some j)) else some false) : Option Bool).bind fun k => (((if k then ((sS a0.kq).bind fun g => ((nw g a0.kq).bind fun h => some h)) else some false) : Option Bool).bind fun l => (((if l then ((sS a0.lc).bind fun c => ((nw c a0.lc).bind fun d => some d)) else some false) : Option Bool).bind fun m => some m)))))
def pz (a0 : List jA) (f1 : jA → Option Bool) : Option Bool :=
 ((oX a0 f1).bind fun a => some (decide (a ≥ 0)))
def sP (a0 : jA) (c : ByteArray) (a : List kw) (b : List ml) (j : ByteArray) (k : Int) (d i : List jA) (g h : List jB) : Option Bool :=
 ((vZ (⟨c, a, b⟩ : jI) a0).bind fun l => some (!l.2))
def vi (a0 : lP) : Option Bool :=
 ((uq a0.jI).bind fun a => (((if (a != 0) then some true else ((nY a0.lG).bind fun d => some (!d))) : Option Bool).bind fun g => (((if g then some true else some (decide (a0.Room < 0))) : Option Bool).bind fun h => (((if h then some true else some (decide (a0.Room > 256))) : Option Bool).bind fun i => (((if i then some true else ((xW a0).bind fun c => some (!c))) : Option Bool).bind fun j => (if j then some false else ((pz a0.Shown (fun (x : jA) => sP x a0.jI.Name a0.jI.jV a0.jI.kx a0.lG a0.Room a0.jU a0.Shown a0.kq a0.lc)).bind fun b => some (!b))))))))
def BS (a0 : vo) : Option vo :=
 (((if (a0.Kind == 1) then some (a0.qN, 0, a0.Name, ([]), ([])) else (if (a0.Kind == 2) then some (0, 0, zS, a0.oF, a0.ns) else (if (a0.Kind == 5) then some (0, a0.E, zS, ([]), ([])) else some (0, 0, zS, ([]), ([]))))) : Option (Int × Int × ByteArray × (List jB) × (List Signed))).bind fun (c, d, g, a, b) => some (⟨a0.Kind, c, d, g, a, b⟩ : vo))
def kO (g : List Signed) (f2 : (Signed × Signed) → Option Bool) : List Signed → Nat → Option Bool
 | [], _ => some true
 | d :: c, i95 => ((lj g (i95 : Int)).bind fun b => ((f2 (d, b)).bind fun a => (if (!a) then some false else (kO g f2 c (i95 + 1)))))
def lW (a0 a : List Signed) (f2 : (Signed × Signed) → Option Bool) : Option Bool :=
 (if ((a0.length : Int) != (a.length : Int)) then some false else kO a f2 a0 0)
def sx (a0 c : Signed) : Option Bool :=
 (((if (kp a0.jA c.jA) then ((yE a0.Tag c.Tag).bind fun a => some a) else some false) : Option Bool).bind fun b => some b)
def yN (a0 a : vo) : Option Bool :=
 (((if (a0.Kind == a.Kind) then some (a0.qN == a.qN) else some false) : Option Bool).bind fun d => (((if d then some (a0.E == a.E) else some false) : Option Bool).bind fun g => (((if g then some (lh a0.Name a.Name) else some false) : Option Bool).bind fun h => (((if h then ((nw a0.oF a.oF).bind fun c => some c) else some false) : Option Bool).bind fun i => (((if i then ((lW a0.ns a.ns (fun (x : (Signed × Signed)) => sx x.1 x.2)).bind fun b => some b) else some false) : Option Bool).bind fun j => some j)))))
def yc (a0 : List jB) : Option Bool :=
 (((if (decide ((a0.length : Int) ≤ 16)) then ((sS a0).bind fun a => ((nw a a0).bind fun b => some b)) else some false) : Option Bool).bind fun c => some c)
def rZ (a0 : List Signed) : List Signed → Nat → Option Bool
 | [], _ => some (decide ((a0.length : Int) ≤ 8))
 | b :: c, a => ((rh b.jA).bind fun d => (((if (!d) then some true else some ((b.Tag.length : Int) != 8)) : Option Bool).bind fun h => (((if h then some true else (((if (decide ((a : Int) > 0)) then ((lj a0 (IntKind.i64.wrap ((a : Int) - 1))).bind fun k => ((pJ k.jA b.jA).bind fun g => some (decide (g ≥ 0)))) else some false) : Option Bool).bind fun j => some j)) : Option Bool).bind fun i => (if i then some false else (rZ a0 c (a + 1))))))
def AE (a0 : List Signed) : Option Bool :=
 rZ a0 a0 0
def xY (a0 : vo) : Option Bool :=
 ((BS a0).bind fun g => ((yN g a0).bind fun h => (if (!h) then some false else (if (a0.Kind == 1) then ((nY a0.Name).bind fun i => (((if i then (((if (a0.qN == 1) then some true else some (a0.qN == 2)) : Option Bool).bind fun l => some l) else some false) : Option Bool).bind fun k => some k)) else (if (a0.Kind == 2) then ((yc a0.oF).bind fun j => (((if j then ((AE a0.ns).bind fun a => some a) else some false) : Option Bool).bind fun b => some b)) else (if (a0.Kind == 5) then (((if (decide (a0.E ≥ 1)) then some (decide (a0.E ≤ 99)) else some false) : Option Bool).bind fun c => some c) else (((if (a0.Kind == 3) then some true else some (a0.Kind == 4)) : Option Bool).bind fun d => some d)))))))
def oD (c : (vo × Int × lP)) : List Signed → (List (jA × Bool)) → Option ((Bool ⊕ (ByteArray × (List kw) × (List ml) × ByteArray × Int × (List jA) × (List jA) × (List jB) × (List jB))) ⊕ (List (jA × Bool)))
 | [], a => some (Sum.inr a)
 | b :: d, a => (((if (uM kp a b.jA false) then some true else ((xv c.2.2 b.jA).bind fun g => some (!g))) : Option Bool).bind fun h => (if h then some (Sum.inl (Sum.inl false)) else (oD c d (mS kp a b.jA true))))
def oC  : List kw → (List (jA × Bool)) → ByteArray → (List kw) → (List ml) → ByteArray → Int → (List jA) → (List jA) → (List jB) → (List jB) → Option (Bool ⊕ (ByteArray × (List kw) × (List ml) × ByteArray × Int × (List jA) × (List jA) × (List jB) × (List jB)))
 | [], m, j, b, c, k, l, d, g, h, i => some (Sum.inr (j, b, c, k, l, d, g, h, i))
 | x :: n, m, j, b, c, k, l, d, g, h, i => ((re (⟨(⟨j, b, c⟩ : jI), k, l, d, g, h, i⟩ : lP)).bind fun r => ((qQ (⟨(⟨j, b, c⟩ : jI), k, l, d, g, h, i⟩ : lP)).bind fun a => (((if (a.2.1 != 0) then some true else ((xY a.1).bind fun u => some (!u))) : Option Bool).bind fun v => (((if v then some true else ((uE a.1).bind fun t => some (t != r))) : Option Bool).bind fun w => (if w then some (Sum.inl false) else ((oD a ((a.1).ns) m : Option ((Bool ⊕ (ByteArray × (List kw) × (List ml) × ByteArray × Int × (List jA) × (List jA) × (List jB) × (List jB))) ⊕ (List (jA × Bool)))).bind fun s => match s with | .inl q => some q | .inr o => (oC n o (((a.2.2).jI).Name) (((a.2.2).jI).jV) (((a.2.2).jI).kx) ((a.2.2).lG) ((a.2.2).Room) ((a.2.2).jU) ((a.2.2).Shown) ((a.2.2).kq) ((a.2.2).lc))))))))
def oE (a0 : lP) : List jA → (List (jA × Bool)) → Option Bool
 | [], a => ((oC a0.jI.jV a a0.jI.Name a0.jI.jV a0.jI.kx a0.lG a0.Room a0.jU a0.Shown a0.kq a0.lc : Option (Bool ⊕ (ByteArray × (List kw) × (List ml) × ByteArray × Int × (List jA) × (List jA) × (List jB) × (List jB)))).bind fun s => match s with | .inl m => some m | .inr (j, b, c, k, l, d, g, h, i) => ((re (⟨(⟨j, b, c⟩ : jI), k, l, d, g, h, i⟩ : lP)).bind fun n => (((if n then ((vi (⟨(⟨j, b, c⟩ : jI), k, l, d, g, h, i⟩ : lP)).bind fun o => some o) else some false) : Option Bool).bind fun q => some q)))
 | t :: r, a => (oE a0 r (mS kp a t true))
def sM (a0 : lP) : Option Bool :=
 (ur.bind fun b => (if (!b) then some false else ((wF a0).bind fun c => (((if (decide (c > 4000)) then some true else ((vi a0).bind fun a => some (!a))) : Option Bool).bind fun d => (if d then some true else oE a0 a0.Shown ([]))))))
def uP (d : List jB) : List jB → Nat → Option Bool
 | [], _ => some true
 | c :: b, i90 => ((lj d (i90 : Int)).bind fun a => (if (!(kc c a)) then some false else (uP d b (i90 + 1))))
end
end Go.Proofs.YtmlncblocfcmiaaGreat
