/- a part of a proof of ThriftHides -/
import Derived.Test.YtklbhegeiijbjaaGreatRtVq
import Derived.Shelf.SlSortCmp.NoneTotal
import Derived.Shelf.SortM.Plain
import Derived.Shelf.SortM.SortNone
import Derived.Shelf.SlIter.Sorted
import Derived.Shelf.SlIter.Nil
import Derived.Test.YtklbhegeiijbjaaGreatProg
import Derived.KernelRfl
set_option linter.all false
namespace Go.Proofs.YtklbhegeiijbjaaGreat
open Go.IntKind renaming wrap → wi0
open Go.RowKit
section
variable {dd : Bool}
def Cg {α : Type} (R : sO α) : mN → List Value → α → Prop := fun μ vs x => ∃ ys, vs = [.agg ys.toArray] ∧ R μ ys x
def xH {α β : Type} (R : sO α) (S : sO β) : mN → List Value → α × β → Prop := fun μ vs x => ∃ ys zs, vs = [.agg ys.toArray, .agg zs.toArray] ∧ R μ ys x.1 ∧ S μ zs x.2
theorem Cg.mk {α : Type} {R : sO α} {k : Nat} {μ μ' : mN} {ys : List Value} {x : α} (a : Deep R k) (h : R μ ys x) (b : mx μ μ') : Cg R μ' [.agg ys.toArray] x := ⟨ys, rfl, a.mono _ _ _ _ b h⟩
theorem xH.mk {α β : Type} {R : sO α} {S : sO β} {k m : Nat} {μ μ' : mN} {ys zs : List Value} {x : α} {y : β} (c : Deep R k) (d : Deep S m) (h : R μ ys x) (b : S μ zs y) (a : mx μ μ') : xH R S μ' [.agg ys.toArray, .agg zs.toArray] (x, y) :=
 ⟨ys, zs, rfl, c.mono _ _ _ _ a h, d.mono _ _ _ _ a b⟩
def zh {α β : Type} (P : Program) (fv : Value) (μ : mN) (a : mN → List Value → α → Prop) (b : β → Value) (pm : α → Option β) : Prop :=
 ∃ f first caps, fv = .func (.func f) first caps ∧ (∀ args w, (callFunc f args).run P w = .ok (.enter f args) w) ∧ ∀ W x vs r, mx μ (hp W) → a (hp W) vs x → pm x = some r → mo false P f (first.toList ++ (vs ++ caps.toList)) W (b r)
theorem zh.form {α β : Type} {P : Program} {fv : Value} {μ : mN} {c : mN → List Value → α → Prop} {d : β → Value} {pm : α → Option β} (h : zh P fv μ c d pm) : ∃ f a b, fv = .func f a b := let ⟨f, a, b, h, _⟩ := h; ⟨_, a, b, h⟩
end
section
variable {P : Program} {W : World} {E : Nat → Value} {d : Option Nat} {ty : TypeId} {pos : String} {af : Array Edge} {g : Option (Nat × Bool)} {F : Nat → Prop} {w : World} {μ μ0 : mN} {L : List (Nat × Obj)}
theorem zh.mono {α β : Type} {fv : Value} {a : mN → List Value → α → Prop} {b : β → Value} {pm : α → Option β} (h : zh P fv μ a b pm) (g : mx μ μ0) : zh P fv μ0 a b pm := by
 obtain ⟨f, first, caps, h1, c, d⟩ := h
 exact ⟨f, first, caps, h1, c, fun W x vs r h => d W x vs r (g.trans h)⟩
theorem AN {α β : Type} {K : Value → World → Prop} {fv : Value} {i : mN → List Value → α → Prop} {j : β → Value} {pm : α → Option β} {b : Operand} {ax : Array Operand} {ats : Array TypeId} (x : α) {vs : List Value} {r : β} (a : ST false F w W μ L) (q : zh P fv μ0 i j pm) (t : mx μ0 μ) (o : i (hp W) vs x) (s : lY E b = fv) (ha : ax.map (lY E) ++ (#[] : Array Value) = vs.toArray) (hm : pm x = some r) (h : ∀ W', ST false F w W' μ L → K (j r) W') : pv P E ⟨d, .call ⟨.value b, ax, ats⟩, ty, pos, af, g⟩ W K := by
 obtain ⟨f, first, caps, rfl, k, l⟩ := q
 have c : ax.map (lY E) = vs.toArray := by simpa using ha
 refine .inr (.inr ⟨f, (first.toList ++ (vs ++ caps.toList)).toArray, ?_, dW (l W x vs r (t.trans a.lL) o hm) (fun _ _ ⟨m, n⟩ => ⟨_, m, h _ (a.JI n)⟩)⟩)
 show (do let d ← resolve (lY E) ⟨.value b, ax, ats⟩ ty; invoke d.target d.args : Sem Next).run P W = _
 simp only [resolve, s, Deferred.ofValue, cN, dP, bW, invoke, c, k]
 congr 2
 simp
end
section
variable {dd : Bool}
variable {β : Type} {Rl : sO β} {k : Nat} {μ : mN} {v : Value} {l : List β} {e : TypeId} {B : List (Nat × Obj)}
variable {F : Nat → Prop} {w W : World} {L : List (Nat × Obj)}
variable {P : Program} {E : Nat → Value} {d : Option Nat} {ty : TypeId} {pos : String} {af : Array Edge} {g : Option (Nat × Bool)}
theorem M5 {α : Type} {enc : α → List Value} (hk : ∀ x, (enc x).length = k) (c : 0 < k) (d : ∀ x y, enc x = enc y → x = y) : ∀ {l m : List α}, (l.map enc).flatten = (m.map enc).flatten → l = m
 | [], [], _ => rfl
 | [], b :: m, h => by
  have := bB List.length h
  simp only [iu, dM, bZ, bM, bV, aD, hk] at this
  omega
 | a :: l, [], h => by
  have := bB List.length h
  simp only [iu, dM, bZ, bM, bV, aD, hk] at this
  omega
 | a :: l, b :: m, h => by
  simp only [bM, bV] at h
  obtain ⟨h1, g⟩ := List.append_inj h (by rw [hk, hk])
  rw [d _ _ h1, M5 hk c d g]
theorem Xy (x y : zX k) (h : ym x = ym y) : x = y := Subtype.ext h
theorem mw.pre {v1 : Value} {cl a : List (zX k)} (d : 0 < k) (h : mw e ym k v cl B) (h1 : mw e ym k v1 a B) (c : a.length ≤ cl.length) : a = cl.take a.length := by
 rcases h with ⟨rfl, rfl, rfl⟩ | ⟨q, cap, b, rfl, rfl, r, s, t, n⟩
 ·simp at c; simp [c]
 ·rcases h1 with ⟨_, _, h⟩ | ⟨g1, g, i, rfl, j, o, a2, a3, a4⟩
  ·cases h
  ·cases j
   refine M5 BT d Xy ?_
   rw [← a4]
   have hle : a.length * k ≤ cl.length * k := cR _ c
   have : b.toList.take (a.length * k) = (b.toList.take (cl.length * k)).take (a.length * k) := by rw [iL, dU hle]
   rw [this, n]
   have l : (cl.map ym).flatten = ((cl.take a.length).map ym).flatten ++ ((cl.drop a.length).map ym).flatten := by rw [← cY, ← cM, iE]
   have m : ((cl.take a.length).map ym).flatten.length = a.length * k := by rw [sJ BT, cX, dU c]
   rw [l, ← m, List.take_left]
theorem rX.replicate {α β : Type} {Q : α → β → Prop} {a : α} {b : β} (h : Q a b) : ∀ n, rX Q (List.replicate n a) (List.replicate n b)
 | 0 => .nil
 | n + 1 => .cons h (rX.replicate h n)
theorem rX.Xx {α β : Type} {Q : α → β → Prop} {l : List α} {m : List β} (h : rX Q l m) {a : α} {b : β} (c : Q a b) (i : Nat) : rX Q (pV l i a) (pV m i b) := by
 unfold pV
 rw [h.length]
 exact (h.take i).append (rX.replicate c _)
theorem JH {t e' : TypeId} {x ih : Operand} {s : IntKind} {i : Int} (q : P.underlying t = some (.slice e')) (he : ∀ w, (sizeOf e').run P w = .ok k w) (r : lY E x = v) (n : lY E ih = .int s i) (h : nm e Rl k μ v l B) (c : 0 ≤ i) (o : i ≤ l.length) :
  ∃ a, nm e Rl k μ a (l.take i.toNat) B ∧ ∀ W, nZ P E ⟨d, .slice t x none (some ih) none, ty, pos, af, g⟩ W a W := by
 obtain ⟨cl, h1, b⟩ := h
 obtain ⟨a, j, m⟩ := xn (d := d) (ty := ty) (pos := pos) (af := af) (g := g) q he r n h1 BT c (by rw [b.length]; exact o)
 exact ⟨a, ⟨_, j, b.take _⟩, m⟩
theorem DK {t e' : TypeId} {x a : Operand} {q : IntKind} {i : Int} (n : P.underlying t = some (.slice e')) (he : ∀ w, (sizeOf e').run P w = .ok k w) (o : lY E x = v) (j : lY E a = .int q i) (h : nm e Rl k μ v l B) (b : 0 ≤ i) (m : i ≤ l.length) :
  ∃ u, Dq k v i.toNat u ∧ ∀ W, nZ P E ⟨d, .slice t x (some a) none none, ty, pos, af, g⟩ W u W := by
 obtain ⟨cl, h1, c⟩ := h
 exact xG n he o j h1 b (by rw [c.length]; exact m)
theorem Pv {t e' : TypeId} {x : Operand} {u : Value} {i : Nat} (b : P.underlying t = some (.slice e')) (c : lY E x = u) (hu : Dq k v i u) (h : nm e Rl k μ v l B) : nZ P E ⟨d, .call ⟨.builtin .len, #[x], #[t]⟩, ty, pos, af, g⟩ W (.int .i64 ((l.length - i : Nat) : Int)) W := by
 obtain ⟨cl, h1, a⟩ := h
 rw [← a.length]
 exact G0 b c hu h1
theorem DY {t e' : TypeId} {x j : Operand} {G : IntKind} {i : Int} {x0 : β} {u : Value} {o : Nat} {A : List Value → Prop} (y : ∀ {ys}, Rl μ ys x0 → A ys) (D : P.underlying t = some (.slice e')) (he : ∀ w, (sizeOf e').run P w = .ok k w) (F : lY E x = u) (r : lY E j = .int G i) (h : nm e Rl k μ v l B) (hu : Dq k v o u) (m : 0 ≤ i) (s : (l.drop o)[i.toNat]? = some x0) :
  ∃ p, (∃ ys, A ys ∧ At (Ca B) p ys ∧ DC B k p (o + i.toNat)) ∧ ∀ W, nZ P E ⟨d, .indexAddr t x j, ty, pos, af, g⟩ W p W := by
 obtain ⟨cl, h1, n⟩ := h
 obtain ⟨c, b, z⟩ := (n.drop o).get s
 obtain ⟨p, a, q⟩ := xJ (d := d) (ty := ty) (pos := pos) (af := af) (g := g) D he F r h1 hu m b
 exact ⟨p, ⟨c.1, y z, a.at h1 BT (zI b), a⟩, q⟩
theorem GQ {K : Value → World → Prop} {z : β} {zs : List Value} {Y : List (Nat × Obj)} {t e' : TypeId} {x : Operand} {u c : Value} {i : Nat} (n : Deep Rl k) (b : ST dd F w W μ (B ++ Y)) (h : nm e Rl k μ v l B) (a : Rl μ zs z) (r : P.underlying t = some (.slice e')) (y : ∀ w, (zeroValue e').run P w = .ok c w) (hu : Dq k v i u) (q : c.cells = zs.toArray) (s : lY E x = u) (o : ∀ W' R', ST dd F w W' μ (R' ++ Y) → nm e Rl k μ v (pV l i z) R' → K (.tuple #[]) W') : pv P E ⟨d, .call ⟨.builtin .clear, #[x], #[t]⟩, ty, pos, af, g⟩ W K := by
 obtain ⟨cl, h1, m⟩ := h
 exact AG (n.cell a) b h1 BT Sg r y hu q s (fun W' R' j a2 => o W' R' j ⟨_, a2, m.Xx a i⟩)
theorem nm.An {b c : List β} {h : Value} {R2 : List (Nat × Obj)} (a : 0 < k) (i : nm e Rl k μ v l B) (h1 : nm e Rl k μ h c B) (j : nm e Rl k μ v b R2) (m : c.length ≤ b.length) : nm e Rl k μ h (b.take c.length) R2 := by
 obtain ⟨cl, n, r⟩ := i
 obtain ⟨c1, o, d⟩ := h1
 obtain ⟨c2, q, g⟩ := j
 refine ⟨_, mw.An a BT n o q (by rw [d.length, g.length]; exact m), ?_⟩
 rw [d.length]
 exact g.take _
end
section
variable {P : Program} {W : World} {E : Nat → Value} {d : Option Nat} {ty : TypeId} {pos : String} {af : Array Edge} {g : Option (Nat × Bool)}
theorem RK {c m : TypeId} {x y : Operand} {fv : Value} {s u : Array TypeId} {bb : Bool} (j : P.underlying c = some (.func s u bb)) (h : ∃ f a b, fv = .func f a b) (k : lY E x = fv) (l : lY E y = .nilFunc) :
  nZ P E ⟨d, .binOp .neq c x y m, ty, pos, af, g⟩ W (.bool true) W := by
 obtain ⟨f, a, b, rfl⟩ := h
 show (do let r ← (do eqGuard .neq c x y (lY E x) (lY E y); binOp .neq c (lY E x) (lY E y)); pure (.value r) : Sem Next).run P W = _
 rw [k, l]
 have i := IJ 9999 j f a b W
 simp [eqGuard, binOp, Op.equal, show Op.maxDepth = 9999 + 1 from rfl, i]
end
theorem bS {α β : Type} {m : Option α} {f : α → Option β} {r : β} {G : Prop} (h : m.bind f = some r) (k : ∀ x, m = some x → f x = some r → G) : G :=
 let ⟨x, a, b⟩ := bind_some h
 k x a b
theorem sj {α : Type} {a b : α} (h : some a = some b) : a = b := fQ h
theorem bC {α : Type} {b : Bool} {x y r : α} {G : Prop} (h : (if b = true then x else y) = r) (a : b = true → x = r → G) (k2 : b = false → y = r → G) : G := by
 rcases Qc b with e | e
 ·exact a e (Vk e h)
 ·exact k2 e (Vp e h)
theorem cB {a b : Bool} (h : a = b) : Value.bool a = Value.bool b := bB Value.bool h
theorem nb {a b : Nat} (h : Nat.ble a b = true := by exact rfl) : a ≤ b := Nat.le_of_ble_eq_true h
def Xa : Nat → Nat → List Bool
 | 0, _ => []
 | n + 1, m => (m % 2 == 1) :: Xa n (m / 2)
def bm (n m : Nat) : Array Bool := (Xa n m).toArray
section
variable {P : Program} {n : Nat} {Q : tF} {E : Nat → Value} {W : World}
theorem CI {α : Type} {co : Operand} {b : Bool} {x y : Code} {A B r : α} (hm : (if b = true then A else B) = r) (a : lY E co = .bool b) (d : b = true → A = r → CW P n x Q E W) (c : b = false → B = r → CW P n y Q E W) : CW P n (.cond co x y) Q E W :=
 PO a (fun e => d e (Vk e hm)) (fun e => c e (Vp e hm))
theorem CJ {c ρ : Type} {m : Option c} {k : c → Option ρ} {r : ρ} {x : Code} {K : (Nat → Value) → World → Prop} (hm : m.bind k = some r) (I : c → (Nat → Value) → World → Prop) (h1 : ∀ s, m = some s → CW P n x (tC (I s) Q) E W) (d : ∀ s E W, I s E W → k s = some r → K E W) : CW P n x (tC K Q) E W :=
 let ⟨s, a, b⟩ := bind_some hm
 Rh (I s) (h1 s a) (fun E W h => d s E W h b)
theorem VJ {d ρ c : Type} {m : Option (c ⊕ d)} {k : c ⊕ d → Option ρ} {r : ρ} {x : Code} {K : (Nat → Value) → World → Prop} (hm : m.bind k = some r) (I : d → (Nat → Value) → World → Prop) (h1 : ∀ s, m = some s → k s = some r → CW P n x (tC (fun E W => ∃ t, s = .inr t ∧ I t E W) Q) E W) (g : ∀ s E W, I s E W → k (.inr s) = some r → K E W) : CW P n x (tC K Q) E W :=
 let ⟨s, a, b⟩ := bind_some hm
 Rh (fun E W => ∃ t, s = .inr t ∧ I t E W) (h1 s a b) (fun E W ⟨t, e, h⟩ => g t E W h (by subst e; exact b))
theorem LJ {c ρ : Type} {m : Option c} {k : c → Option ρ} {r : ρ} {ops : Array Oper} {rest : List Oper} (hm : m.bind k = some r) (I : c → (Nat → Value) → World → Prop) (j : Nat) (d : ∀ s E W, I s E W → k s = some r → LW P n ops Q (rest.drop j) E W) (h1 : ∀ s, m = some s → (∀ E W, I s E W → LW P n ops Q (rest.drop j) E W) → LW P n ops Q rest E W) : LW P n ops Q rest E W :=
 let ⟨s, a, b⟩ := bind_some hm
 h1 s a (fun E W h => d s E W h b)
theorem PJ {c ρ : Type} {m : Option c} {k : c → Option ρ} {r : ρ} {ops : Array Oper} {S : Array Bool → World → Prop} {fuel : Nat} {listed : Array Bool} (hm : m.bind k = some r) (I : c → (Nat → Value) → World → Prop) (g : Array Bool) (d : Nat) (i : ∀ s E W, I s E W → k s = some r → PX P n ops Q S d g E W) (h1 : ∀ s, m = some s → (∀ E W, I s E W → PX P n ops Q S d g E W) → PX P n ops Q S fuel listed E W) : PX P n ops Q S fuel listed E W :=
 let ⟨s, a, b⟩ := bind_some hm
 h1 s a (fun E W h => i s E W h b)
end
section
variable {dd : Bool} {P : Program} {fn : Func} {E : Nat → Value} {W w : World} {μ : mN} {L : List (Nat × Obj)}
theorem rP {t : Tmp} {v : Value} (a : ST dd mD w W μ L) (b : fn.results = #[.tmp t] := by exact rfl) (c : E t = v := by exact rfl) : Bt P fn (fun e W' => e = .returned v ∧ Ex dd w W') .ret E W := nc b c ⟨rfl, a.ex⟩
end
theorem ST.Hs {dd : Bool} {F : Nat → Prop} {w W : World} {μ : mN} {x : Nat × Obj} {L : List (Nat × Obj)} (h : ST dd F w W μ (x :: L)) : ST dd F w W μ ([x] ++ L) := h
theorem ST.Vl {dd : Bool} {F : Nat → Prop} {w W : World} {μ : mN} {L : List (Nat × Obj)} (h : ST dd F w W μ L) : ST dd F w W μ ([] ++ L) := h
theorem aL {E : Nat → Value} {ax : Array Operand} {l : List Value} (h : ax.toList.map (lY E) = l) : ax.map (lY E) ++ (#[] : Array Value) = l.toArray := by subst h; apply Array.ext'; simp
section
variable {dd : Bool}
variable {P : Program} {E : Nat → Value} {W : World} {d : Option Nat} {ty : TypeId} {pos : String} {af : Array Edge} {g : Option (Nat × Bool)}
 {F : Nat → Prop} {w : World} {μ : mN} {L : List (Nat × Obj)}
variable {f : FuncId} {fv : Operand} {ax : Array Operand} {ats : Array TypeId} {args : List Value} {v : Value} {K : Value → World → Prop}
theorem Eg (a : ST dd F w W μ L) (he : ∀ args w, (callFunc f args).run P w = .ok (.enter f args) w) (b : mo dd P f args W v) (h : ∀ W', ST dd F w W' μ L → K v W') (c : lY E fv = .func (.func f) #[] #[] := by exact rfl) (ha : ax.toList.map (lY E) = args := by exact rfl) : pv P E ⟨d, .call ⟨.value fv, ax, ats⟩, ty, pos, af, g⟩ W K := OL a c he (aL ha) b h
theorem pA {α : Type} {e : TypeId} {enc : α → List Value} {k : Nat} {l : List α} {Y : List (Nat × Obj)} (a : ST dd F w W μ Y) (he : ∀ args w, (callFunc f args).run P w = .ok (.enter f args) w) (b : nq dd P f args W e enc k l) (h : ∀ W' v μ' R, ST dd F w W' μ' (R ++ Y) → mx μ μ' → Lo F w μ μ' → mw e enc k v l R → K v W') (c : lY E fv = .func (.func f) #[] #[] := by exact rfl) (ha : ax.toList.map (lY E) = args := by exact rfl) : pv P E ⟨d, .call ⟨.value fv, ax, ats⟩, ty, pos, af, g⟩ W K := Pf _ a c he (aL ha) b h
theorem Gz {K' : Value → List (Nat × Obj) → World → Prop} {L0 L2 : List (Nat × Obj)} (i : ST dd F w W μ L) (j : L.Perm (L0 ++ L2)) (he : ∀ args w, (callFunc f args).run P w = .ok (.enter f args) w) (k : Ht L0 W → (L0.map (·.1)).Nodup → mx μ (wW W L0) → (∀ b o, (b, o) ∈ L2 → wW W L0 b = some o) → nJ dd P f args W L0 K') (h : ∀ W' v μ' L1, ST dd F w W' μ' (L1 ++ L2) → mx μ μ' → Lo F w μ μ' → (∀ b, W.heap.size ≤ b → ∀ o, wW W' L1 b = some o → μ' b = some o) → K' v L1 W' → K v W') (l : lY E fv = .func (.func f) #[] #[] := by exact rfl) (ha : ax.toList.map (lY E) = args := by exact rfl) : pv P E ⟨d, .call ⟨.value fv, ax, ats⟩, ty, pos, af, g⟩ W K :=
 T6 L0 L2 i j l he (aL ha) (fun a b c d => by have := k a b c d; simpa using this) h
theorem O1 {K' : Value → List (Nat × Obj) → mN → Prop} {L0 L2 : List (Nat × Obj)} (i : ST dd F w W μ L) (j : L.Perm (L0 ++ L2)) (he : ∀ args w, (callFunc f args).run P w = .ok (.enter f args) w) (k : Ht L0 W → (L0.map (·.1)).Nodup → mx μ (wW W L0) → (∀ b o, (b, o) ∈ L2 → wW W L0 b = some o) → nO dd P f args W μ L0 K') (h : ∀ W' v μ' L1, ST dd F w W' μ' (L1 ++ L2) → mx μ μ' → Lo F w μ μ' → K' v L1 μ' → K v W') (l : lY E fv = .func (.func f) #[] #[] := by exact rfl) (ha : ax.toList.map (lY E) = args := by exact rfl) : pv P E ⟨d, .call ⟨.value fv, ax, ats⟩, ty, pos, af, g⟩ W K :=
 NR L0 L2 i j l he (aL ha) (fun a b c d => by have := k a b c d; simpa using this) h
end
section
variable {E : Nat → Value} {x1 x2 x3 x4 x5 x6 x7 x8 : Operand} {v1 v2 v3 v4 v5 v6 v7 v8 : Value}
theorem X3 (h1 : lY E x1 = v1) : [x1].map (lY E) = [v1] := by rw [← h1]; rfl
theorem WV (h1 : lY E x1 = v1) (a : lY E x2 = v2) : [x1, x2].map (lY E) = [v1, v2] := by rw [← h1, ← a]; rfl
end
def XW (R : List (Nat × Obj)) (k : Nat) (p : Value) (i a : Nat) : Prop := ∃ g o, R = [(g, o)] ∧ p = .pointer (some ⟨g, i * k + a, none⟩)
theorem DC.f {R : List (Nat × Obj)} {k : Nat} {p : Value} {i : Nat} (h : DC R k p i) : XW R k p i 0 := h
section
variable {P : Program} {E : Nat → Value} {W : World} {d : Option Nat} {ty : TypeId} {pos : String} {af : Array Edge} {g : Option (Nat × Bool)}
 {dd : Bool} {F : Nat → Prop} {w : World} {μ : mN} {L : List (Nat × Obj)} {α : Type} {e' : TypeId} {enc : α → List Value} {k : Nat} {v : Value} {l : List α} {R : List (Nat × Obj)}
theorem mw.put (h : mw e' enc k v l R) (hk : ∀ x, (enc x).length = k) {p : Value} {i : Nat} (hp : DC R k p i) {x0 : α} (r : l[i]? = some x0) (x1 : α) :
  ∃ g a, R = [(g, .cells a e' (0, 0))] ∧ p = .pointer (some ⟨g, i * k, none⟩) ∧ i * k + k ≤ a.size ∧ (∀ j y, (enc x0)[j]? = some y → a[i * k + j]? = some y) ∧
   mw e' enc k v (l.set i x1) [(g, .cells (a.toList.take (i * k) ++ enc x1 ++ a.toList.drop (i * k + k)).toArray e' (0, 0))] := by
 have m : i < l.length := (bN.1 r).1
 obtain ⟨o, a, cap, rfl, rfl, q, u, d, w, rfl, z⟩ := DF h hk hp r
 have hle : i * k + k ≤ cap * k := by
  have : (i + 1) * k ≤ cap * k := cR _ (by omega)
  rwa [cU, lp] at this
 have b : i * k + k ≤ l.length * k := by
  have : (i + 1) * k ≤ l.length * k := cR _ (by omega)
  rwa [cU, lp] at this
 have hlen : l.length * k ≤ cap * k := cR _ q
 refine ⟨o, a, rfl, rfl, by rw [d]; exact hle, z, .inr ⟨o, cap, _, by simp, rfl, by simpa using q, u, ?_, ?_⟩⟩
 ·show ((a.toList.take (i * k) ++ (enc x1) ++ a.toList.drop (i * k + k)).toArray).size = _
  have c : a.toList.length = cap * k := by simpa using d
  rw [eF, aD, aD, cX, jA, hk, c, dU (by omega)]; omega
 ·rw [jO, IG hk l i x1 m, ← w]
  have s : (a.toList.take (l.length * k)).take (i * k) = a.toList.take (i * k) := by rw [iL]; congr 1; omega
  have t : (a.toList.take (l.length * k)).drop (i * k + k) = (a.toList.drop (i * k + k)).take (l.length * k - (i * k + k)) := by rw [ke]
  rw [s, t]
  show List.take (l.length * k) (a.toList.take (i * k) ++ enc x1 ++ a.toList.drop (i * k + k)) = _
  have c : a.toList.length = cap * k := by simpa using d
  have n : (a.toList.take (i * k) ++ enc x1).length = i * k + k := by rw [aD, cX, hk, c, dU (by omega)]
  rw [ij, cZ (by rw [n]; exact b), n]
end
theorem oc {v : Value} (h : v.cells.toList.all Value.oneCell' = true := by exact rfl) : ∀ u ∈ v.cells.toList, u.oneCell' = true := gE.1 h
theorem dc {p : Prop} [Decidable p] (h : p := by decide) : p := h
theorem kr {p : Prop} (h : p := by kernel_rfl) : p := h
theorem br {α : Sort _} {a b : α} (h : a = b := by rfl) : a = b := h
abbrev LO := List (Nat × Obj)
abbrev Ob (c : Array Value) (t : TypeId) : Obj := .cells c t (0, 0)
abbrev Ol (c : List Value) (t : TypeId) : Obj := .cells c.toArray t (0, 0)
theorem ot {P : Program} {t e : TypeId} {m k : Nat} {z : Value} {a : Array (Nat × Value)} {cs : Array Value} (i : P.underlying t = some (.slice e)) (g : ∀ w, (sizeOf e).run P w = .ok k w) (l : ∀ w, (zeroValue e).run P w = .ok z w) (hm : m * k ≤ 16777216 := by decide) (d : a.toList = (a.toList.map (·.2)).zipIdx.map (fun p => (p.2, p.1)) := by exact rfl) (j : (a.toList.map (·.2)).all (fun v => v.cells.size == k) = true := by exact rfl) (c : (a.toList.map (·.2)).length = m := by exact rfl) (b : ((a.toList.map (·.2)).flatMap (fun v => v.cells.toList)).toArray = cs := by exact rfl) (W : World) :
  (Instr.buildSlice t m a).run P W = .ok (.slice (some ⟨W.heap.size, 0, none⟩) m m) (W.alloc (.cells cs e (0, 0))) :=
 Bf _ i g l hm d (fun v h => eq_of_beq (gE.1 j v h)) c b W
section
variable {dd : Bool} {P : Program} {fn : Func} {E : Nat → Value} {W w : World} {μ : mN} {L L0 : List (Nat × Obj)}
theorem rQ {α : Type} {f : α → Value} {a r : α} {t : Tmp} (hm : some a = some r) (b : ST dd mD w W μ L) (c : fn.results = #[.tmp t] := by exact rfl) (d : E t = f a := by exact rfl) : Bt P fn (fun e W' => e = .returned (f r) ∧ Ex dd w W') .ret E W := by
 obtain rfl := sj hm; exact nc c d ⟨rfl, b.ex⟩
theorem cG (n : Nat) {f : FuncId} {c : Code} {args : List Value} {v : Value} (a : P.funcs[f]? = some fn) (b : fn.body = some c) (h : ST dd mD w w (hp w) [] → CW P n c (Bt P fn (fun e i => e = .returned v ∧ Ex dd w i)) (FJ args) w) (g : fn.ntmps = n := by exact rfl) (d : args.length ≤ n := by exact nb) : mo dd P f args w v := Cv a b g d (h (ST.start w))
theorem uk {K : Value → List (Nat × Obj) → World → Prop} (n : Nat) {f : FuncId} {c : Code} {args : List Value} (a : P.funcs[f]? = some fn) (d : fn.body = some c) (h : ST dd mD w w (hp w) [] → CW P n c (Bt P fn (fun e b => ∃ v L1, e = .returned v ∧ wZ dd [] L1 w b ∧ K v L1 b)) (FJ args) w) (i : fn.ntmps = n := by exact rfl) (g : args.length ≤ n := by exact nb) : nJ dd P f args w [] K := Cv a d i g (h (ST.start w))
theorem Bo {K : Value → List (Nat × Obj) → World → Prop} (d : pC μ L0 w) (n : Nat) {f : FuncId} {c : Code} {args : List Value} (a : P.funcs[f]? = some fn) (g : fn.body = some c) (h : ST dd (keys L0) w w μ L0 → CW P n c (Bt P fn (fun e b => ∃ v L1, e = .returned v ∧ wZ dd L0 L1 w b ∧ K v L1 b)) (FJ args) w) (j : fn.ntmps = n := by exact rfl) (i : args.length ≤ n := by exact nb) : nJ dd P f args w L0 K := Cv a g j i (h (ST.RD d))
theorem wj {K : Value → List (Nat × Obj) → mN → Prop} (d : pC μ L0 w) (n : Nat) {f : FuncId} {c : Code} {args : List Value} (a : P.funcs[f]? = some fn) (g : fn.body = some c) (h : ST dd (keys L0) w w μ L0 → CW P n c (Bt P fn (fun e b => ∃ v L1 μ1, e = .returned v ∧ wZ dd L0 L1 w b ∧ mx μ μ1 ∧ Lo (keys L0) w μ μ1 ∧ mx μ1 (wW b L1) ∧ K v L1 μ1)) (FJ args) w) (j : fn.ntmps = n := by exact rfl) (i : args.length ≤ n := by exact nb) : nO dd P f args w μ L0 K := Cv a g j i (h (ST.RD d))
end
section
variable {dd : Bool}
variable {P : Program} {E : Nat → Value} {W : World} {d : Option Nat} {ty : TypeId} {pos : String} {af : Array Edge} {g : Option (Nat × Bool)}
 {F : Nat → Prop} {w : World} {μ : mN} {L : List (Nat × Obj)}
variable {f : FuncId} {fv : Operand} {ax : Array Operand} {ats : Array TypeId} {args : List Value} {v : Value} {K : Value → World → Prop}
theorem eM {K' : Value → List (Nat × Obj) → World → Prop} {L0 L2 : List (Nat × Obj)} (i : ST dd F w W μ L) (j : L.Perm (L0 ++ L2)) (he : ∀ args w, (callFunc f args).run P w = .ok (.enter f args) w) (k : pC (wW W L0) L0 W → mx μ (wW W L0) → nJ dd P f args W L0 K') (h : ∀ W' v μ' L1, ST dd F w W' μ' (L1 ++ L2) → mx μ μ' → Lo F w μ μ' → (∀ b, W.heap.size ≤ b → ∀ o, wW W' L1 b = some o → μ' b = some o) → K' v L1 W' → K v W') (l : lY E fv = .func (.func f) #[] #[] := by exact rfl) (ha : ax.toList.map (lY E) = args := by exact rfl) : pv P E ⟨d, .call ⟨.value fv, ax, ats⟩, ty, pos, af, g⟩ W K :=
 Gz i j he (fun a b c _ => k ⟨a, b, mx.refl _⟩ c) h l ha
theorem eD {K' : Value → List (Nat × Obj) → mN → Prop} {L0 L2 : List (Nat × Obj)} (i : ST dd F w W μ L) (j : L.Perm (L0 ++ L2)) (he : ∀ args w, (callFunc f args).run P w = .ok (.enter f args) w) (k : pC μ L0 W → nO dd P f args W μ L0 K') (h : ∀ W' v μ' L1, ST dd F w W' μ' (L1 ++ L2) → mx μ μ' → Lo F w μ μ' → K' v L1 μ' → K v W') (l : lY E fv = .func (.func f) #[] #[] := by exact rfl) (ha : ax.toList.map (lY E) = args := by exact rfl) : pv P E ⟨d, .call ⟨.value fv, ax, ats⟩, ty, pos, af, g⟩ W K :=
 O1 i j he (fun a b c _ => k ⟨a, b, c⟩) h l ha
end
def QX (op : BinOp) : Value → Value → Option Value
 | .int k a, .int k' b => if k = k' then Mw k op a b else none
 | _, _ => none
def Vm (i : Nat) : Value → Option Value
 | .tuple vs => vs[i]?
 | _ => none
def MD : Value → Bool
 | .pointer (some ⟨_, _, none⟩) => true
 | _ => false
def Va (o : Nat) : Value → Value
 | .pointer (some ⟨b, k, none⟩) => .pointer (some ⟨b, k + o, none⟩)
 | v => v
theorem Lx {v : Value} (h : MD v = true) : ∃ b k, v = .pointer (some ⟨b, k, none⟩) := by
 unfold MD at h; split at h
 ·exact ⟨_, _, rfl⟩
 ·cases h
section
variable {P : Program} {n : Nat} {Q : tF} {E : Nat → Value} {W : World} {ops : Array Oper} {rest : List Oper}
 {d j t : Nat} {want b : Bool} {v : Value} {ins : Go.Op} {ty : TypeId} {pos : String} {af : Array Edge} {A : Value → Prop} {x y : Operand}
theorem Wm (h : LW P n ops Q rest (qh E d (lY E x)) W) (a : d < n := by decide) : LW P n ops Q (⟨some d, .move x, ty, pos, af, none⟩ :: rest) E W := V (lP rfl) h a
theorem Wa (h : LW P n ops Q rest (qh E d (lY E x)) W) (a : d < n := by decide) : LW P n ops Q (⟨some d, .assign x, ty, pos, af, none⟩ :: rest) E W := V (oD rfl) h a
theorem Wh (b : lY E x = v) (h : LW P n ops Q rest (qh E d v) W) (a : d < n := by decide) : LW P n ops Q (⟨some d, .move x, ty, pos, af, none⟩ :: rest) E W := V (lP b) h a
theorem Wg (b : lY E x = v) (h : LW P n ops Q rest (qh E d v) W) (a : d < n := by decide) : LW P n ops Q (⟨some d, .assign x, ty, pos, af, none⟩ :: rest) E W := V (oD b) h a
theorem Wx {i : Nat} (a : Vm i (lY E x) = some v) (h : LW P n ops Q rest (qh E d v) W) (b : d < n := by decide) : LW P n ops Q (⟨some d, .extract x i, ty, pos, af, none⟩ :: rest) E W := by
 unfold Vm at a; split at a
 ·rename_i vs e; exact V (xy e a) h b
 ·cases a
theorem Wi {op : BinOp} {m l : TypeId} (c : QX op (lY E x) (lY E y) = some v) (h : LW P n ops Q rest (qh E d v) W) (j : d < n := by decide) : LW P n ops Q (⟨some d, .binOp op m x y l, ty, pos, af, none⟩ :: rest) E W := by
 unfold QX at c; split at c
 ·rename_i k a k' b g i
  split at c
  ·rename_i e; subst e; exact V (mP g i c) h j
  ·cases c
 ·cases c
theorem Wf {t : TypeId} {f off : Nat} (a : ny P t f off) (h : LW P n ops Q rest (qh E d (Va off (lY E x))) W) (hp : MD (lY E x) = true := by exact rfl) (c : d < n := by decide) : LW P n ops Q (⟨some d, .fieldAddr t x f, ty, pos, af, none⟩ :: rest) E W := by
 obtain ⟨b, k, e⟩ := Lx hp
 refine V (lO a e) ?_ c
 rw [e] at h; exact h
theorem Wn (h : LW P n ops Q rest (qh E d (lY E x)) W) (hp : MD (lY E x) = true := by exact rfl) (a : d < n := by decide) : LW P n ops Q (⟨some d, .nilCheck x, ty, pos, af, none⟩ :: rest) E W := by
 obtain ⟨b, k, e⟩ := Lx hp
 refine V (nN e) ?_ a
 rw [e] at h; exact h
theorem un (h : b = !want) (k : LW P n ops Q rest (qh E d undef) W) (c : (ops[j]?).bind (·.dst) = some t := by exact rfl) (a : E t = .bool b := by exact rfl) (i : t < n := by decide) (g : d < n := by decide) :
  LW P n ops Q (⟨some d, ins, ty, pos, af, some (j, want)⟩ :: rest) E W := Vn c (by rw [a, h]) k i g
theorem ug (h : b = want) (i : nZ P E ⟨some d, ins, ty, pos, af, some (j, want)⟩ W v W) (k : LW P n ops Q rest (qh E d v) W) (c : (ops[j]?).bind (·.dst) = some t := by exact rfl) (a : E t = .bool b := by exact rfl) (l : t < n := by decide) (g : d < n := by decide) :
  LW P n ops Q (⟨some d, ins, ty, pos, af, some (j, want)⟩ :: rest) E W := Vg c (by rw [a, h]) i k l g
theorem sa (h : b = want) (k : pv P E ⟨some d, ins, ty, pos, af, some (j, want)⟩ W fun v W' => LW P n ops Q rest (qh E d v) W') (c : (ops[j]?).bind (·.dst) = some t := by exact rfl) (a : E t = .bool b := by exact rfl) (i : t < n := by decide) (g : d < n := by decide) :
  LW P n ops Q (⟨some d, ins, ty, pos, af, some (j, want)⟩ :: rest) E W := RA c (by rw [a, h]) k i g
theorem WX (h : b = want) (i : ∃ p, A p ∧ ∀ W, nZ P E ⟨some d, ins, ty, pos, af, some (j, want)⟩ W p W) (k : ∀ p, A p → LW P n ops Q rest (qh E d p) W) (c : (ops[j]?).bind (·.dst) = some t := by exact rfl) (a : E t = .bool b := by exact rfl) (l : t < n := by decide) (g : d < n := by decide) :
  LW P n ops Q (⟨some d, ins, ty, pos, af, some (j, want)⟩ :: rest) E W := XX c (by rw [a, h]) i k l g
section
variable {dd : Bool} {F : Nat → Prop} {w : World} {μ : mN} {L : List (Nat × Obj)} {T : TypeId} {a off : Nat} {cs : Array Value} {fr : Nat × Nat}
theorem VA {t : TypeId} (b : ST dd F w W μ L) (g : (a, Obj.cells cs T fr) ∈ L) (ys : List Value) (c : ∀ w, (isAgg t).run P w = .ok true w) (i : ∀ w, (sizeOf t).run P w = .ok ys.length w) (h : LW P n ops Q rest (qh E d (.agg ys.toArray)) W) (k : lY E x = .pointer (some ⟨a, off, none⟩) := by exact rfl) (l : (cs.toList.drop off).take ys.length = ys := by exact rfl) (j : d < n := by decide) : LW P n ops Q (⟨some d, .load t x, ty, pos, af, none⟩ :: rest) E W := V (lJ k (lQ b.has g ys l c i)) h j
theorem VB {t : TypeId} (b : ST dd F w W μ L) (g : (a, Obj.cells cs T fr) ∈ L) (j : lY E x = .pointer (some ⟨a, off, none⟩)) (k : cs[off]? = some v) (c : ∀ w, (isAgg t).run P w = .ok false w) (h : LW P n ops Q rest (qh E d v) W) (i : d < n := by decide) : LW P n ops Q (⟨some d, .load t x, ty, pos, af, none⟩ :: rest) E W := V (lJ j (lX b.has g k c)) h i
end
section
variable {K : (Nat → Value) → World → Prop} {Q' : tF} {c : Code} {id id2 : Nat} {l : List Oper} {z : Code}
theorem sg (h : LW P n l.toArray (tC (fun E W => CW P n c Q E W) Q) l E W) : CW P n (.seq (.region id l.toArray false) c) Q E W := mf (ma h)
theorem ln (h : K E W) : LW P n ops (tC K Q) [] E W := mz (lU h)
theorem lr (h : LW P n l.toArray (tC (fun E W => CW P n c Q E W) Q) l E W) : LW P n ops (tC (fun E W => CW P n (.seq (.region id l.toArray false) c) Q E W) Q') [] E W := mz (lU (mf (ma h)))
theorem lS (h : LW P n l.toArray (tC (fun E W => CW P n c (tC (fun E W => CW P n z Q E W) Q) E W) (tC (fun E W => CW P n z Q E W) Q)) l E W) : LW P n ops (tC (fun E W => CW P n (.seq (.seq (.region id l.toArray false) c) z) Q E W) Q') [] E W := mz (lU (mf (mf (ma h))))
theorem bg (h : LW P n l.toArray (tC (fun E W => CW P n c (zt id2 Q) E W) (zt id2 Q)) l E W) : CW P n (.block id2 (.seq (.region id l.toArray false) c)) Q E W := nL (mf (ma h))
theorem kg (h : LW P n l.toArray (tC (fun E W => CW P n c Q E W) Q) l E W) : CW P n .skip (tC (fun E W => CW P n (.seq (.region id l.toArray false) c) Q E W) Q') E W := nf (lU (mf (ma h)))
theorem kS (h : LW P n l.toArray (tC (fun E W => CW P n c (tC (fun E W => CW P n z Q E W) Q) E W) (tC (fun E W => CW P n z Q E W) Q)) l E W) : CW P n .skip (tC (fun E W => CW P n (.seq (.seq (.region id l.toArray false) c) z) Q E W) Q') E W := nf (lU (mf (mf (ma h))))
theorem lt (h : Q .ret E W) : LW P n ops (tC (fun E W => CW P n .ret Q E W) Q') [] E W := mz (lU (mu h))
theorem kn (h : K E W) : CW P n .skip (tC K Q) E W := nf (lU h)
end
end
theorem ST.Wl {α : Type} {dd : Bool} {F : Nat → Prop} {w W : World} {μ : mN} {R Y : List (Nat × Obj)} {e' : TypeId} {enc : α → List Value} {k : Nat} {v : Value} {l : List α} (d : ST dd F w W μ (R ++ Y)) (h : sy e' enc k v l R) (hk : ∀ x, (enc x).length = k) : ∃ μ', ST dd F w W μ' Y ∧ mx μ μ' ∧ Lo F w μ μ' ∧ Sl (Pl enc) k μ' v l := by
 obtain ⟨μ', g, a2, a3, a4⟩ := ST.yH d
 refine ⟨μ', g, a2, a3, (h.Fj hk).mono (Pl.mono _) (fun b o a => ?_)⟩
 unfold Ca at a
 cases c : List.find? (fun p => p.1 == b) R with
 | none => rw [c] at a; cases a
 | some q =>
  rw [c] at a
  have h1 := gL c
  have i := jP c
  obtain rfl : q.2 = o := by simpa using a
  obtain rfl : q.1 = b := by simpa using i
  exact a4 _ _ h1
end Go.Proofs.YtklbhegeiijbjaaGreat
namespace Go.Proofs.YtklbhegeiijbjaaGreat
open Go.IntKind renaming wrap → wi0
open Go.Sort Go.Proofs Go.Shelf
theorem I6 {g b : Nat} {o : Obj} : keys [(g, o)] b ↔ b = g := by
 constructor
 ·rintro ⟨a, h⟩
  simp at h
  exact h.1
 ·rintro rfl; exact ⟨o, by simp⟩
theorem EN (w : World) (g m : Nat) (f : Array Value → Array Value) (os : Array Obj) (b : Nat) (c : b < w.heap.size) :
  (Go.Sort.grow (mapBlock (Go.Sort.ahead w m) g f) os).heap[b]? = if g = b then w.heap[b]?.map (onCells f) else w.heap[b]? := by
 have a : b < (mapBlock (Go.Sort.ahead w m) g f).heap.size := by simp only [mapBlock, Go.Sort.ahead, Array.size_modify]; exact c
 rw [heap_grow_old _ _ a]
 simp only [mapBlock, Go.Sort.ahead, eS]
theorem N0 {w : World} {g m : Nat} {f : Array Value → Array Value} {os : Array Obj} {cs : Array Value} {T : TypeId} {fr : Nat × Nat} (c : w.heap[g]? = some (.cells cs T fr)) :
  wZ true [(g, .cells cs T fr)] [(g, .cells (f cs) T fr)] w (Go.Sort.grow (mapBlock (Go.Sort.ahead w m) g f) os) := by
 have a : g < w.heap.size := (dV.1 c).1
 refine ⟨⟨rfl, rfl, rfl, ?_, ?_, fun b d i => ?_⟩, fun b o h => ?_, by simp⟩
 ·refine wC.of ?_
  show w.drawn ≤ w.drawn + m
  omega
 ·show w.heap.size ≤ (w.heap.modify g (onCells f) ++ os).size
  simp
 ·rw [EN _ _ _ _ _ _ d, aY fun h => i (I6.2 h.symm)]
 ·simp only [aS, dY, iY, Prod.mk.injEq] at h
  obtain ⟨rfl, rfl⟩ := h
  refine ⟨?_, .inr (I6.2 rfl)⟩
  rw [EN _ _ _ _ _ _ a, aZ rfl, c]
  rfl
theorem Pp {w W : World} (h : Ex true w W) : ∃ q os, W = Go.Sort.grow (w.drewN q) os := by
 refine ⟨W.drawn - w.drawn, W.heap.extract w.heap.size W.heap.size, ?_⟩
 have d : W.heap = w.heap ++ W.heap.extract w.heap.size W.heap.size := by
  apply Array.ext_getElem?
  intro i
  rw [Array.getElem?_append]
  split
  ·rename_i g; exact h.oG i g
  ·rename_i g
   rw [Array.getElem?_extract]
   have k := h.size
   split
   ·rw [show w.heap.size + (i - w.heap.size) = i by omega]
   ·exact Array.getElem?_eq_none (by omega)
 obtain ⟨h1, l, m, n, o⟩ := W
 have a := h.os; have b := h.tape; have c := h.output; have j := h.drawn rfl
 simp only at a b c j d
 unfold Go.Sort.grow World.drewN
 simp only [World.mk.injEq]
 exact ⟨d, b, by omega, a, c⟩
theorem OD {α : Type} [Inhabited α] {enc : α → List Value} {k : Nat} (hk : ∀ x, (enc x).length = k) (l : List α) (j : Nat) (a : j < l.length * k) :
  (l.map enc).flatten[j]? = some ((flatK enc k l.toArray)[j]!) := by
 have d : 0 < k := by
  cases k with
  | zero => simp at a
  | succ n => omega
 have h1 : j / k < l.length := (jy d).2 a
 rw [get_flatK _ _ _ _ (by simpa using a)]
 have g : l.toArray[j / k]! = l[j / k] := by
  rw [getElem!_pos l.toArray (j / k) (by simpa using h1)]; simp
 rw [g]
 have b : j % k < (enc l[j / k]).length := by rw [hk]; exact Nat.mod_lt _ d
 have c := zH hk l (j / k) l[j / k] (dF h1) (j % k) ((enc l[j / k])[j % k]) (dF b)
 rw [Nat.div_add_mod' j k] at c
 rw [c, getElem!_pos (enc l[j / k]) (j % k) b]
theorem Mb {α : Type} [Inhabited α] {enc : α → List Value} {k : Nat} (hk : ∀ x, (enc x).length = k) {w : World} {g : Nat} {cs : Array Value} {T : TypeId} (b : w.heap[g]? = some (.cells cs T (0, 0))) (l : List α)
  (d : cs.toList.take (l.length * k) = (l.map enc).flatten) : HoldsK enc k w g 0 l.toArray := by
 intro j c
 have a : j < l.length * k := by simpa using c
 have h1 := OD hk l j a
 rw [← d, ir, aZ a] at h1
 refine ⟨?_, ?_⟩
 ·simp only [World.cell?, b, gQ]
  simpa using h1
 ·simp [World.frozen?, b]
theorem Oa {α : Type} [Inhabited α] {enc : α → List Value} {k : Nat} (hk : ∀ x, (enc x).length = k) {cs : Array Value} (l : List α) (b : l.length * k ≤ cs.size) :
  (putCells id 0 (flatK enc k l.toArray) cs).toList.take (l.length * k) = (l.map enc).flatten := by
 apply fP
 intro j
 rw [ir]
 split
 ·rename_i a
  rw [OD hk l j a]
  simp only [putCells, eA, Array.getElem?_mapIdx, size_flatK, eF]
  rw [Array.getElem?_eq_getElem (by omega)]
  simp [a]
 ·rename_i a
  rw [iD (by rw [sJ hk]; omega)]
theorem Mv (enc : Value → Value) (o : Nat) (d c : Array Value) : (putCells enc o d c).size = c.size := by simp [putCells]
section
variable {α : Type} {P : Program} {ρ : Ren}
theorem VH {l : List α} {cf : α × α → Option Int} (h : Ha cf l) : SWO (ltOf fun (x y : {x // x ∈ l}) => (cf (x.1, y.1)).getD 0) ∧
  (∀ x y : {x // x ∈ l}, ltOf (fun (x y : {x // x ∈ l}) => (cf (x.1, y.1)).getD 0) x y = xj cf x.1 y.1) := by
 have e : ∀ x y : {x // x ∈ l}, ltOf (fun (x y : {x // x ∈ l}) => (cf (x.1, y.1)).getD 0) x y = xj cf x.1 y.1 := fun x y => by
  obtain ⟨c, g⟩ := h.is x.1 x.2 y.1 y.2
  simp [ltOf, xj, g]
 refine ⟨⟨fun x => ?_, fun x y z => ?_, fun x y z => ?_⟩, e⟩
 ·rw [e]; exact h.irrefl _ x.2
 ·rw [e, e, e]; exact h.trans _ x.2 _ y.2 _ z.2
 ·rw [e, e, e]
  intro h1 b
  cases a : xj cf x.1 z.1 with
  | false => rfl
  | true =>
   cases d : xj cf y.1 x.1 with
   | true =>
    have := h.trans _ y.2 _ x.2 _ z.2 d a
    rw [b] at this; cases this
   | false =>
    have := h.total _ x.2 _ y.2 h1 d
    rw [this, b] at a; cases a
theorem IE (L : SlLaysF0.n6 P ρ) (k : Nat) (aE : ∀ w, (isAgg (ρ.t 24)).run P w = .ok true w) (zE : ∀ w, (Go.sizeOf (ρ.t 24)).run P w = .ok k w) {e : TypeId} (enc : α → List Value) (hk : ∀ x, (enc x).length = k) (h1 : ∀ x, ∀ u ∈ enc x, u.oneCell' = true) {v fv : Value} {l r : List α} {R : List (Nat × Obj)} {cf : α × α → Option Int} {w : World} {μ0 : mN} (hH : Ht (R ++ []) w) (A : mx μ0 (wW w (R ++ []))) (W : mw e enc k v l R) (hc : Vt P fv μ0 (fun (x : α × α) => [(.agg (enc x.1).toArray), (.agg (enc x.2).toArray)]) (fun (r : Int) => (.int .i64 r)) cf) (hm : AT cf l = some r) :
  nJ true P (ρ.f 6) [v, fv] w (R ++ []) (fun u L1 _ => ∃ (S : List (Nat × Obj)), u = (.tuple #[]) ∧ L1 = (S ++ []) ∧ mw e enc k v r S) := by
 obtain ⟨ok, rfl⟩ := Kn hm
 rw [bT] at hH A ⊢
 rcases fJ l.length with h0 | i
 ·have hl : l = [] := aW h0
  subst hl
  have Y : wy cf ([] : List α) = [] := by simp [wy]
  rw [Y]
  obtain ⟨p, c, rfl⟩ : ∃ p c, v = .slice p 0 c := by
   rcases W with ⟨rfl, _, _⟩ | ⟨g, cap, j, rfl, _⟩
   ·exact ⟨_, _, rfl⟩
   ·exact ⟨_, _, rfl⟩
  refine dW (AnyF.slices_SortFunc_none L p c fv w) fun x w' ⟨hx, hw⟩ => ?_
  subst hx hw
  refine ⟨_, R, rfl, ⟨⟨rfl, rfl, rfl, wC.of (bA _), bA _, fun _ _ _ => rfl⟩, fun b o h => ⟨hH b o h, .inr ⟨o, h⟩⟩, ?_⟩, R, rfl, (bT R).symm, W⟩
  rcases W with ⟨_, _, rfl⟩ | ⟨g, cap, j, _, rfl, _⟩ <;> simp
 ·rcases W with ⟨_, rfl, _⟩ | ⟨g, cap, j, rfl, rfl, a7, a6, J, ad⟩
  ·simp at i
  have hg : w.heap[g]? = some (.cells j e (0, 0)) := hH g _ (by simp)
  have a8 : g < w.heap.size := (dV.1 hg).1
  haveI : Inhabited {x // x ∈ l} := ⟨⟨l[0], List.getElem_mem i⟩⟩
  obtain ⟨gg, caps, rfl, M, q⟩ := hc
  obtain ⟨hO, O⟩ := VH ok
  have D : l.attach.toArray.size = l.length := by simp
  have aa : l.attach.map (fun x => enc x.1) = l.map enc := by
   rw [show (fun x : {x // x ∈ l} => enc x.1) = enc ∘ Subtype.val from rfl, ← fS, List.attach_map_subtype_val]
  have Z : HoldsK (fun x : {x // x ∈ l} => enc x.1) k w g 0 l.attach.toArray := Mb (fun x => hk x.1) hg l.attach (by rw [aa, List.length_attach, ad])
  have I : CmpLays P gg caps (fun x : {x // x ∈ l} => enc x.1) k (fun x y => (cf (x.1, y.1)).getD 0) g 0 l.attach.toArray.size w := by
   intro m os dk af x y
   obtain ⟨c, G⟩ := ok.is x.1 x.2 y.1 y.2
   have U : mx μ0 (hp (sortWorldK (fun x : {x // x ∈ l} => enc x.1) k w g 0 m dk os)) := fun b o hb => by
    have z := A b o hb
    unfold wW at z
    split at z
    ·cases z
    ·rename_i hn
     have a1 : b < w.heap.size := (dV.1 z).1
     show (Go.Sort.grow (mapBlock (Go.Sort.ahead w m) g _) os).heap[b]? = _
     rw [EN _ _ _ _ _ _ a1, aY fun h => hn (I6.2 h.symm)]
     exact z
   have h3 := q (sortWorldK (fun x : {x // x ∈ l} => enc x.1) k w g 0 m dk os) (x.1, y.1) c U G
   have ea : ([Value.agg (enc x.1).toArray, Value.agg (enc y.1).toArray] ++ caps.toList).toArray = #[Value.agg (enc x.1).toArray, Value.agg (enc y.1).toArray] ++ caps := by
    apply Array.ext'; simp
   rw [← ea]
   exact dW h3 fun u W' hu => ⟨by rw [hu.1]; show _ = Ending.returned (.int .i64 ((cf (x.1, y.1)).getD 0)); rw [G]; rfl, Pp hu.2⟩
  have hT : ∀ x y : {x // x ∈ l}, ltOf (fun (x y : {x // x ∈ l}) => (cf (x.1, y.1)).getD 0) x y = false → ltOf (fun (x y : {x // x ∈ l}) => (cf (x.1, y.1)).getD 0) y x = false → x = y := fun x y a b => by
   rw [O] at a b
   exact Subtype.ext (ok.total _ x.2 _ y.2 a b)
  have d := AnyQ.slices_SortFunc_total L k aE zE (fun x : {x // x ∈ l} => enc x.1) (fun x => hk x.1) (fun x => h1 x.1) (fun x y => (cf (x.1, y.1)).getD 0) hO gg caps g 0 cap l.attach.toArray w M I Z a8 (by rw [D]; exact ok.short) hT
  rw [D] at d
  refine dW d fun u w' ⟨hu, n, os, hw⟩ => ?_
  subst hu
  generalize Y : l.attach.toArray.toList.mergeSort (fun x y => !ltOf (fun (x y : {x // x ∈ l}) => (cf (x.1, y.1)).getD 0) y x) = s at hw
  have ab : s.map Subtype.val = wy cf l := by
   rw [← Y, ki (s := fun x y => !xj cf y x) (fun a _ b _ => by rw [O])]
   simp [wy]
  have T : s.length = l.length := by rw [← Y, List.length_mergeSort]; simp
  have Q : (wy cf l).length = l.length := by simp [wy, List.length_mergeSort]
  have F := N0 (w := w) (m := n) (f := putCells id 0 (flatK (fun x : {x // x ∈ l} => enc x.1) k s.toArray)) (os := os) hg
  have ae : w' = Go.Sort.grow (mapBlock (Go.Sort.ahead w n) g (putCells id 0 (flatK (fun x : {x // x ∈ l} => enc x.1) k s.toArray))) os := hw
  rw [← ae] at F
  refine ⟨_, _, rfl, F, _, rfl, (bT _).symm, .inr ⟨g, cap, _, by rw [Q], rfl, by omega, a6, by rw [Mv, J], ?_⟩⟩
  rw [Q, ← T, Oa (fun x => hk x.1) s (by rw [T, J]; exact cR k a7), ← ab, fS]
  rfl
end
theorem Hm (b : ByteArray) : b.toList = b.data.toList := by rw [ig]
theorem UF (l : List ByteArray) : (l.map wc).flatten = l.map Value.string := by
 induction l with
 | nil => rfl
 | cons x l ih => simp only [bM, bV, ih]; rfl
theorem RY (l : List ByteArray) : (yb l).map (fun b => b.data.toList) = (l.map (fun b => b.data.toList)).mergeSort (fun x y => decide (x ≤ y)) := by
 unfold yb
 refine ki fun a _ b _ => ?_
 unfold tp
 rw [bytesLess_eq, Hm, Hm]
 by_cases h : a.data.toList ≤ b.data.toList
 ·have c : ¬ b.data.toList < a.data.toList := List.not_lt.2 h
  simp [h, c]
 ·have c : b.data.toList < a.data.toList := by
   cases Decidable.em (b.data.toList < a.data.toList) with
   | inl d => exact d
   | inr d => exact absurd (List.not_lt.1 d) h
  simp [h, c]
end Go.Proofs.YtklbhegeiijbjaaGreat
namespace Go.Proofs.YtklbhegeiijbjaaGreat
open Go.IntKind renaming wrap → wi0
open Go.WideElems Go.WideShapes Go.Sort Go.Proofs Go.Shelf
theorem N5 {β : Type} {vf : β → Value} {P : Program} {kt : TypeId} (y : P.underlying kt = some .string) {l : List (ByteArray × β)} {es : Array MapEntry} {clock : Nat} (h : xN Value.string vf l es clock) (u : (l.map (·.1)).Nodup) (w : ∀ p ∈ l, p.1.size ≤ maxLen) (t : l.length ≤ maxLen) {W : World} {b : Nat} (r : W.heap[b]? = some (.map es clock)) : ∃ D : DataW Unit, W.ownsMap P kt (fun _ => some (.lit (.bool true), [])) b es.size D ∧ (strKeys D).Perm (l.map (fun p => p.1.data.toList)) ∧ Maps.size D = l.length := by
 have c := h.keys
 have m : ∀ x ∈ es.toList, ∃ s : ByteArray, x.key = .string s ∧ s.size ≤ maxLen := fun x i => by
  have h1 : x.key ∈ es.toList.map (·.key) := bJ.2 ⟨x, i, rfl⟩
  rw [c] at h1
  obtain ⟨s, g, j⟩ := bJ.1 h1
  obtain ⟨p, o, q⟩ := bJ.1 g
  exact ⟨s, j.symm, by rw [← q]; exact w p o⟩
 have d : ∀ x ∈ es.toList, ∃ s : ByteArray, x.key = .string s ∧ Go.WideElems.rd (H := Unit) P kt (fun _ => some (.lit (.bool true), [])) x = some (.string s.data.toList, .lit (.bool true)) := fun x i => by
  obtain ⟨s, h1, g⟩ := m x i
  refine ⟨s, h1, ?_⟩
  simp [Go.WideElems.rd, keyOf, y, mapKey, h1, g]
 refine ⟨_, ⟨es, clock, r, ⟨by rw [h.length]; exact t, ⟨h.lt, ?_, ?_⟩, fun x i => ?_⟩, bA _, rfl⟩, ?_, ?_⟩
 ·have := h.born
  rw [List.Nodup, iG]
  exact this.imp (fun {a b} h => by omega)
 ·rw [c]
  rw [List.Nodup, iG]
  exact u.imp (fun {a b} k e => k (by injection e))
 ·obtain ⟨s, _, g⟩ := d x i
  exact ⟨_, g⟩
 ·have h1 := (sorted_perm (es.toList.map (Go.WideElems.rg (H := Unit) P kt (fun _ => some (.lit (.bool true), []))))).map (fun p => strOf p.1)
  refine List.Perm.trans h1 ?_
  have e : (es.toList.map (Go.WideElems.rg (H := Unit) P kt (fun _ => some (.lit (.bool true), [])))).map (fun p => strOf p.1) = l.map (fun p => p.1.data.toList) := by
   have n : (es.toList.map (Go.WideElems.rg (H := Unit) P kt (fun _ => some (.lit (.bool true), [])))).map (fun p => strOf p.1) = (es.toList.map (·.key)).map (fun v => match v with | .string s => s.data.toList | _ => []) := by
    rw [fS, fS]
    refine jS fun x i => ?_
    obtain ⟨s, g, j⟩ := d x i
    simp [Go.WideElems.rg, j, g, strOf]
   rw [n, c, fS, fS]
   rfl
  rw [e]
 ·have h1 := (sorted_perm (es.toList.map (Go.WideElems.rg (H := Unit) P kt (fun _ => some (.lit (.bool true), []))))).length_eq
  show (List.foldr DataW.insert [] _).length = _
  rw [h1, dE, ← h.length]
  simp
theorem Mm {l : List ByteArray} {g : List (List UInt8)} (h : g.Perm (l.map fun b => b.data.toList)) : g.mergeSort (fun x y => decide (x ≤ y)) = (yb l).map (fun b => b.data.toList) := by
 rw [RY]
 have le : ∀ a b c : List UInt8, decide (a ≤ b) = true → decide (b ≤ c) = true → decide (a ≤ c) = true := fun a b c h1 d => by
  simp only [bR] at *
  exact List.le_trans h1 d
 have tot : ∀ a b : List UInt8, (decide (a ≤ b) || decide (b ≤ a)) = true := fun a b => by
  simp only [iw, bR]
  exact List.le_total a b
 refine List.Perm.eq_of_pairwise (le := fun a b => decide (a ≤ b) = true) (fun a b _ _ h1 d => List.le_antisymm (by simpa using h1) (by simpa using d)) (ji le tot _) (ji le tot _) ?_
 exact (jT _ _).trans (h.trans (jT _ _).symm)
section
variable {P : Program} {ρk ρt ρm : Ren}
theorem NW (LK : SlLaysZ.n7 P ρk) (LT : SlLaysZ.n6 P ρt) (LM : SlLaysM.n6 P ρm) (h9 : ρt.f 9 = ρm.f 6) (hK : P.underlying (ρk.t 26) = some .string) (eg : ∀ args w, (callFunc (ρk.f 10) args).run P w = .ok (.enter (ρk.f 10) args) w) (es : ∀ args w, (callFunc (ρt.f 9) args).run P w = .ok (.enter (ρt.f 9) args) w) {β : Type} {vf : β → Value} {l : List (ByteArray × β)} {b : Nat} {mv : Value} {t : TypeId} {W : World} {r : List ByteArray} (u : W.heap[b]? = some (.cells #[mv] t (0, 0))) (hm : sS Value.string vf (hp W) mv l) (hk : Jz l = some r) :
  nq false P (ρt.f 6) [.func (.func (ρk.f 10)) #[] #[.pointer (some ⟨b, 0, none⟩)]] W (ρt.t 26) wc 1 r := by
 unfold Jz at hk
 split at hk
 case isFalse => cases hk
 rename_i hc
 obtain ⟨T, U, Y⟩ := hc
 cases hk
 have i : b < W.heap.size := (dV.1 u).1
 have c : W.cell? ⟨b, 0, none⟩ = some mv := by simp [World.cell?, u]
 have q : AnyZ.SortsIn P ρt Fence.wide 4 :=
  ⟨fun M off cap d W hH hblk s => callsIn_wide.2 (by rw [h9]; exact AnyM.slices_Sort_string LM M off cap d W hH hblk s), fun p cap W => callsIn_wide.2 (by rw [h9]; exact AnyM.slices_Sort_string_none LM p cap W)⟩
 have I : SeqGives Fence.wide 2 P (ρk.f 10) #[.pointer (some ⟨b, 0, none⟩)] encStr (fun d => d.Perm ((l.map (·.1)).map fun b => b.data.toList)) l.length W := by
  rcases hm with ⟨rfl, rfl⟩ | ⟨m, es, clock, rfl, a6, A⟩
  ·have := AnyZ.keys_gives_nil (ρ := ρk) { LK with } Fence.wide 2 trivial rfl b W i c
   intro l' J W' Q O R L
   refine CallsIn.mono (this l' J W' Q O R L) ?_
   rintro e w' ⟨hv, d, rfl, hj⟩
   exact ⟨hv, [], bI _, hj⟩
  ·obtain ⟨D, F, n, s⟩ := N5 hK A T U (by unfold maxLen; omega) a6
   have := AnyZ.keys_gives (ρ := ρk) { LK with } Fence.wide 2 trivial rfl (by omega) b m es.size D W i c F
   intro l' J W' Q O R L
   refine CallsIn.mono (this l' J W' Q O (by rw [s]; exact R) L) ?_
   rintro e w' ⟨hv, d, hp, hj⟩
   refine ⟨hv, d, ?_, hj⟩
   rw [fS]
   exact hp.trans n
 have cS := AnyZ.sorted_in LT Fence.wide 5 trivial trivial trivial trivial rfl (by omega) q es (ρk.f 10) #[.pointer (some ⟨b, 0, none⟩)] trivial eg _ l.length (by unfold maxLen; omega) Y W I
 refine dW (callsIn_wide.1 cS) ?_
 rintro e w' ⟨v, d, rfl, hS, G, a8, a⟩
 have hs := Mm hS
 have hlen : d.length = (yb (l.map (·.1))).length := by
  have := bB List.length hs
  simpa using this
 have k : (d.mergeSort (fun x y => decide (x ≤ y))).map encStr = ((yb (l.map (·.1))).map wc).flatten := by
  rw [hs, UF, fS]
  refine jS (fun x _ => ?_)
  simp only [Function.comp, encStr]
 rcases G.2 with ⟨rfl, L⟩ | ⟨g, cap, z, rfl, j, hg, aa, Z, a1, a7⟩
 ·have : yb (l.map (·.1)) = [] := aW (by omega)
  rw [this]
  exact ⟨_, [], rfl, wZ.My ⟨a.os, a.tape, a.output, fun h => (by cases h), a.size, fun b u => a.block b u⟩ (fun _ _ h => by cases h) (by simp), mw.nil _ _ _⟩
 ·refine ⟨_, [(g, .cells z (ρt.t 26) (0, 0))], rfl, wZ.My ⟨a.os, a.tape, a.output, fun h => (by cases h), a.size, fun b u => a.block b u⟩ (fun b o h => by simp at h; obtain ⟨rfl, rfl⟩ := h; exact ⟨hg, j⟩) (by simp), .inr ⟨g, cap, z, by rw [hlen], rfl, by omega, Z, a1, ?_⟩⟩
  rw [← hlen, a7, k]
end
end Go.Proofs.YtklbhegeiijbjaaGreat
namespace Go.Proofs.YtklbhegeiijbjaaGreat
open Go.IntKind renaming wrap → wi0
def iq := @Tryz.underlying9
def iy := @Tryz.zeroValue9
def iQ := @Tryz.underlying0
def je := @Tryz.zeroValue0
def jo := @Tryz.sizeOf9
def jC := @Tryz.underlying4
def jK := @Tryz.isAgg9
def jQ := @Tryz.zeroValue4
def jY := @Tryz.sizeOf0
def kj := @Tryz.underlying232
def kk := @Tryz.underlying276
def kl := @Tryz.underlying277
def km := @Tryz.underlying281
def ko := @Tryz.underlying284
def kq := @Tryz.underlying235
def ku := @Tryz.underlying310
def kv := @Tryz.underlying314
def kw := @Tryz.underlying343
def kx := @Tryz.underlying200
def ky := @Tryz.underlying261
def kE := @Tryz.isAgg0
def kG := @Tryz.zeroValue232
def kH := @Tryz.zeroValue276
def kI := @Tryz.zeroValue277
def kJ := @Tryz.zeroValue281
def kK := @Tryz.zeroValue284
def kL := @Tryz.zeroValue235
def kM := @Tryz.zeroValue310
def kN := @Tryz.zeroValue314
def kO := @Tryz.zeroValue343
def kP := @Tryz.zeroValue200
def kR := @Tryz.zeroValue261
def lf := @Tryz.underlying3
def lg := @Tryz.underlying5
def li := @Tryz.sizeOf4
def ll := @Tryz.zeroValue3
def lm := @Tryz.zeroValue5
def lu := @Tryz.isAgg4
def QB : Go.Shelf.Ren := ⟨fun | 6 => 114 | 15 => 177 | 14 => 176 | 28 => 238 | 29 => 239 | 20 => 230 | 21 => 231 | 22 => 232 | 23 => 233 | 24 => 234 | 25 => 235 | 26 => 236 | 27 => 237 | 46 => 277 | 47 => 278 | 48 => 279 | 49 => 280 | 50 => 281 | 57 => 317 | n => n, fun | 22 => 28 | 24 => 52 | 25 => 177 | 3 => 3 | 39 => 232 | 0 => 0 | 53 => 284 | 55 => 235 | 4 => 4 | 46 => 277 | 45 => 276 | 50 => 281 | 5 => 5 | 9 => 9 | 66 => 310 | 70 => 314 | 76 => 343 | 77 => 200 | n => n, fun | n => n⟩
theorem UG : Go.Proofs.SlLaysF0.n6 Tryz.prog QB := {
 mixed := by kernel_rfl,
 f6 := ⟨Tryz.f114.name, by decide, Tryz.func114.trans (bB some (by kernel_rfl))⟩,
 f14 := ⟨Tryz.f176.name, by decide, Tryz.func176.trans (bB some (by kernel_rfl))⟩,
 f15 := Tryz.func177.trans (bB some (by kernel_rfl)),
 f20 := ⟨Tryz.f230.name, by decide, Tryz.func230.trans (bB some (by kernel_rfl))⟩,
 f21 := ⟨Tryz.f231.name, by decide, Tryz.func231.trans (bB some (by kernel_rfl))⟩,
 f22 := ⟨Tryz.f232.name, by decide, Tryz.func232.trans (bB some (by kernel_rfl))⟩,
 f23 := ⟨Tryz.f233.name, by decide, Tryz.func233.trans (bB some (by kernel_rfl))⟩,
 f24 := ⟨Tryz.f234.name, by decide, Tryz.func234.trans (bB some (by kernel_rfl))⟩,
 f25 := ⟨Tryz.f235.name, by decide, Tryz.func235.trans (bB some (by kernel_rfl))⟩,
 f26 := ⟨Tryz.f236.name, by decide, Tryz.func236.trans (bB some (by kernel_rfl))⟩,
 f27 := ⟨Tryz.f237.name, by decide, Tryz.func237.trans (bB some (by kernel_rfl))⟩,
 f28 := Tryz.func238.trans (bB some (by kernel_rfl)),
 f29 := Tryz.func239.trans (bB some (by kernel_rfl)),
 f46 := ⟨Tryz.f277.name, by decide, Tryz.func277.trans (bB some (by kernel_rfl))⟩,
 f47 := Tryz.func278.trans (bB some (by kernel_rfl)),
 f48 := Tryz.func279.trans (bB some (by kernel_rfl)),
 f49 := ⟨Tryz.f280.name, by decide, Tryz.func280.trans (bB some (by kernel_rfl))⟩,
 f50 := ⟨Tryz.f281.name, by decide, Tryz.func281.trans (bB some (by kernel_rfl))⟩,
 f57 := ⟨Tryz.f317.name, by decide, Tryz.func317.trans (bB some (by kernel_rfl))⟩,
 t0 := iQ,
 a0 := kE,
 z0 := jY,
 v0 := je,
 t3 := lf,
 a3 := Tryz.isAgg3,
 z3 := Tryz.sizeOf3,
 v3 := ll,
 t4 := jC,
 a4 := lu,
 z4 := li,
 v4 := jQ,
 t5 := lg,
 a5 := Tryz.isAgg5,
 z5 := Tryz.sizeOf5,
 v5 := lm,
 t9 := iq,
 a9 := jK,
 z9 := jo,
 v9 := iy,
 t22 := Tryz.underlying28,
 a22 := Tryz.isAgg28,
 z22 := Tryz.sizeOf28,
 v22 := Tryz.zeroValue28,
 t25 := Tryz.underlying177,
 a25 := Tryz.isAgg177,
 z25 := Tryz.sizeOf177,
 v25 := Tryz.zeroValue177,
 t39 := kj,
 a39 := Tryz.isAgg232,
 z39 := Tryz.sizeOf232,
 v39 := kG,
 t45 := kk,
 a45 := Tryz.isAgg276,
 z45 := Tryz.sizeOf276,
 v45 := kH,
 t46 := kl,
 a46 := Tryz.isAgg277,
 z46 := Tryz.sizeOf277,
 v46 := kI,
 t50 := km,
 a50 := Tryz.isAgg281,
 z50 := Tryz.sizeOf281,
 v50 := kJ,
 t53 := ko,
 a53 := Tryz.isAgg284,
 z53 := Tryz.sizeOf284,
 v53 := kK,
 t55 := kq,
 a55 := Tryz.isAgg235,
 z55 := Tryz.sizeOf235,
 v55 := kL,
 t66 := ku,
 a66 := Tryz.isAgg310,
 z66 := Tryz.sizeOf310,
 v66 := kM,
 t70 := kv,
 a70 := Tryz.isAgg314,
 z70 := Tryz.sizeOf314,
 v70 := kN,
 t76 := kw,
 a76 := Tryz.isAgg343,
 z76 := Tryz.sizeOf343,
 v76 := kO,
 t77 := kx,
 a77 := Tryz.isAgg200,
 z77 := Tryz.sizeOf200,
 v77 := kP}
def RN : Go.Shelf.Ren := ⟨fun | 6 => 154 | 15 => 177 | 14 => 208 | 28 => 238 | 29 => 239 | 20 => 252 | 21 => 253 | 22 => 254 | 23 => 255 | 24 => 256 | 25 => 257 | 26 => 258 | 27 => 259 | 46 => 293 | 47 => 278 | 48 => 279 | 49 => 294 | 50 => 295 | 57 => 324 | n => n, fun | 22 => 34 | 24 => 50 | 25 => 214 | 3 => 3 | 39 => 232 | 0 => 0 | 53 => 284 | 55 => 235 | 4 => 4 | 46 => 277 | 45 => 276 | 50 => 281 | 5 => 5 | 9 => 9 | 66 => 310 | 70 => 314 | 76 => 343 | 77 => 200 | n => n, fun | n => n⟩
theorem Vo : Go.Proofs.SlLaysF0.n6 Tryz.prog RN := {
 mixed := by kernel_rfl,
 f6 := ⟨Tryz.f154.name, by decide, Tryz.func154.trans (bB some (by kernel_rfl))⟩,
 f14 := ⟨Tryz.f208.name, by decide, Tryz.func208.trans (bB some (by kernel_rfl))⟩,
 f15 := Tryz.func177.trans (bB some (by kernel_rfl)),
 f20 := ⟨Tryz.f252.name, by decide, Tryz.func252.trans (bB some (by kernel_rfl))⟩,
 f21 := ⟨Tryz.f253.name, by decide, Tryz.func253.trans (bB some (by kernel_rfl))⟩,
 f22 := ⟨Tryz.f254.name, by decide, Tryz.func254.trans (bB some (by kernel_rfl))⟩,
 f23 := ⟨Tryz.f255.name, by decide, Tryz.func255.trans (bB some (by kernel_rfl))⟩,
 f24 := ⟨Tryz.f256.name, by decide, Tryz.func256.trans (bB some (by kernel_rfl))⟩,
 f25 := ⟨Tryz.f257.name, by decide, Tryz.func257.trans (bB some (by kernel_rfl))⟩,
 f26 := ⟨Tryz.f258.name, by decide, Tryz.func258.trans (bB some (by kernel_rfl))⟩,
 f27 := ⟨Tryz.f259.name, by decide, Tryz.func259.trans (bB some (by kernel_rfl))⟩,
 f28 := Tryz.func238.trans (bB some (by kernel_rfl)),
 f29 := Tryz.func239.trans (bB some (by kernel_rfl)),
 f46 := ⟨Tryz.f293.name, by decide, Tryz.func293.trans (bB some (by kernel_rfl))⟩,
 f47 := Tryz.func278.trans (bB some (by kernel_rfl)),
 f48 := Tryz.func279.trans (bB some (by kernel_rfl)),
 f49 := ⟨Tryz.f294.name, by decide, Tryz.func294.trans (bB some (by kernel_rfl))⟩,
 f50 := ⟨Tryz.f295.name, by decide, Tryz.func295.trans (bB some (by kernel_rfl))⟩,
 f57 := ⟨Tryz.f324.name, by decide, Tryz.func324.trans (bB some (by kernel_rfl))⟩,
 t0 := iQ,
 a0 := kE,
 z0 := jY,
 v0 := je,
 t3 := lf,
 a3 := Tryz.isAgg3,
 z3 := Tryz.sizeOf3,
 v3 := ll,
 t4 := jC,
 a4 := lu,
 z4 := li,
 v4 := jQ,
 t5 := lg,
 a5 := Tryz.isAgg5,
 z5 := Tryz.sizeOf5,
 v5 := lm,
 t9 := iq,
 a9 := jK,
 z9 := jo,
 v9 := iy,
 t22 := Tryz.underlying34,
 a22 := Tryz.isAgg34,
 z22 := Tryz.sizeOf34,
 v22 := Tryz.zeroValue34,
 t25 := Tryz.underlying214,
 a25 := Tryz.isAgg214,
 z25 := Tryz.sizeOf214,
 v25 := Tryz.zeroValue214,
 t39 := kj,
 a39 := Tryz.isAgg232,
 z39 := Tryz.sizeOf232,
 v39 := kG,
 t45 := kk,
 a45 := Tryz.isAgg276,
 z45 := Tryz.sizeOf276,
 v45 := kH,
 t46 := kl,
 a46 := Tryz.isAgg277,
 z46 := Tryz.sizeOf277,
 v46 := kI,
 t50 := km,
 a50 := Tryz.isAgg281,
 z50 := Tryz.sizeOf281,
 v50 := kJ,
 t53 := ko,
 a53 := Tryz.isAgg284,
 z53 := Tryz.sizeOf284,
 v53 := kK,
 t55 := kq,
 a55 := Tryz.isAgg235,
 z55 := Tryz.sizeOf235,
 v55 := kL,
 t66 := ku,
 a66 := Tryz.isAgg310,
 z66 := Tryz.sizeOf310,
 v66 := kM,
 t70 := kv,
 a70 := Tryz.isAgg314,
 z70 := Tryz.sizeOf314,
 v70 := kN,
 t76 := kw,
 a76 := Tryz.isAgg343,
 z76 := Tryz.sizeOf343,
 v76 := kO,
 t77 := kx,
 a77 := Tryz.isAgg200,
 z77 := Tryz.sizeOf200,
 v77 := kP}
def UR : Go.Shelf.Ren := ⟨fun | 6 => 310 | 8 => 177 | 9 => 332 | 19 => 238 | 20 => 239 | 21 => 345 | 22 => 346 | 23 => 347 | 24 => 348 | 25 => 349 | 26 => 350 | 27 => 351 | 28 => 352 | 29 => 353 | 36 => 360 | 31 => 278 | 32 => 279 | 37 => 361 | 38 => 362 | 39 => 363 | 41 => 366 | n => n, fun | 27 => 261 | 29 => 9 | 3 => 3 | 32 => 232 | 26 => 261 | 0 => 0 | 44 => 284 | 46 => 235 | 4 => 4 | 36 => 277 | 35 => 276 | 41 => 281 | 5 => 5 | 9 => 9 | 53 => 310 | 57 => 314 | 63 => 343 | 64 => 200 | n => n, fun | n => n⟩
theorem Vc : Go.Proofs.SlLaysM.n6 Tryz.prog UR := {
 mixed := by kernel_rfl,
 f6 := ⟨Tryz.f310.name, by decide, Tryz.func310.trans (bB some (by kernel_rfl))⟩,
 f8 := Tryz.func177.trans (bB some (by kernel_rfl)),
 f9 := ⟨Tryz.f332.name, by decide, Tryz.func332.trans (bB some (by kernel_rfl))⟩,
 f19 := Tryz.func238.trans (bB some (by kernel_rfl)),
 f20 := Tryz.func239.trans (bB some (by kernel_rfl)),
 f21 := ⟨Tryz.f345.name, by decide, Tryz.func345.trans (bB some (by kernel_rfl))⟩,
 f22 := ⟨Tryz.f346.name, by decide, Tryz.func346.trans (bB some (by kernel_rfl))⟩,
 f23 := ⟨Tryz.f347.name, by decide, Tryz.func347.trans (bB some (by kernel_rfl))⟩,
 f24 := ⟨Tryz.f348.name, by decide, Tryz.func348.trans (bB some (by kernel_rfl))⟩,
 f25 := ⟨Tryz.f349.name, by decide, Tryz.func349.trans (bB some (by kernel_rfl))⟩,
 f26 := ⟨Tryz.f350.name, by decide, Tryz.func350.trans (bB some (by kernel_rfl))⟩,
 f27 := ⟨Tryz.f351.name, by decide, Tryz.func351.trans (bB some (by kernel_rfl))⟩,
 f28 := ⟨Tryz.f352.name, by decide, Tryz.func352.trans (bB some (by kernel_rfl))⟩,
 f29 := ⟨Tryz.f353.name, by decide, Tryz.func353.trans (bB some (by kernel_rfl))⟩,
 f31 := Tryz.func278.trans (bB some (by kernel_rfl)),
 f32 := Tryz.func279.trans (bB some (by kernel_rfl)),
 f36 := ⟨Tryz.f360.name, by decide, Tryz.func360.trans (bB some (by kernel_rfl))⟩,
 f37 := ⟨Tryz.f361.name, by decide, Tryz.func361.trans (bB some (by kernel_rfl))⟩,
 f38 := ⟨Tryz.f362.name, by decide, Tryz.func362.trans (bB some (by kernel_rfl))⟩,
 f39 := ⟨Tryz.f363.name, by decide, Tryz.func363.trans (bB some (by kernel_rfl))⟩,
 f41 := ⟨Tryz.f366.name, by decide, Tryz.func366.trans (bB some (by kernel_rfl))⟩,
 t0 := iQ,
 a0 := kE,
 z0 := jY,
 v0 := je,
 t3 := lf,
 a3 := Tryz.isAgg3,
 z3 := Tryz.sizeOf3,
 v3 := ll,
 t4 := jC,
 a4 := lu,
 z4 := li,
 v4 := jQ,
 t5 := lg,
 a5 := Tryz.isAgg5,
 z5 := Tryz.sizeOf5,
 v5 := lm,
 t9 := iq,
 a9 := jK,
 z9 := jo,
 v9 := iy,
 t26 := ky,
 a26 := Tryz.isAgg261,
 z26 := Tryz.sizeOf261,
 v26 := kR,
 t27 := ky,
 a27 := Tryz.isAgg261,
 z27 := Tryz.sizeOf261,
 v27 := kR,
 t29 := iq,
 a29 := jK,
 z29 := jo,
 v29 := iy,
 t32 := kj,
 a32 := Tryz.isAgg232,
 z32 := Tryz.sizeOf232,
 v32 := kG,
 t35 := kk,
 a35 := Tryz.isAgg276,
 z35 := Tryz.sizeOf276,
 v35 := kH,
 t36 := kl,
 a36 := Tryz.isAgg277,
 z36 := Tryz.sizeOf277,
 v36 := kI,
 t41 := km,
 a41 := Tryz.isAgg281,
 z41 := Tryz.sizeOf281,
 v41 := kJ,
 t44 := ko,
 a44 := Tryz.isAgg284,
 z44 := Tryz.sizeOf284,
 v44 := kK,
 t46 := kq,
 a46 := Tryz.isAgg235,
 z46 := Tryz.sizeOf235,
 v46 := kL,
 t53 := ku,
 a53 := Tryz.isAgg310,
 z53 := Tryz.sizeOf310,
 v53 := kM,
 t57 := kv,
 a57 := Tryz.isAgg314,
 z57 := Tryz.sizeOf314,
 v57 := kN,
 t63 := kw,
 a63 := Tryz.isAgg343,
 z63 := Tryz.sizeOf343,
 v63 := kO,
 t64 := kx,
 a64 := Tryz.isAgg200,
 z64 := Tryz.sizeOf200,
 v64 := kP}
def TH : Go.Shelf.Ren := ⟨fun | 7 => 283 | 10 => 319 | n => n, fun | 23 => 190 | 26 => 9 | 3 => 4 | 28 => 318 | 0 => 0 | 27 => 317 | 33 => 128 | 4 => 4 | n => n, fun | n => n⟩
theorem Ut : Go.Proofs.SlLaysZ.n7 Tryz.prog TH := {
 mixed := by kernel_rfl,
 f7 := ⟨Tryz.f283.name, by decide, Tryz.func283.trans (bB some (by kernel_rfl))⟩,
 f10 := ⟨Tryz.f319.name, by decide, Tryz.func319.trans (bB some (by kernel_rfl))⟩,
 t0 := iQ,
 a0 := kE,
 z0 := jY,
 v0 := je,
 t4 := jC,
 a4 := lu,
 z4 := li,
 v4 := jQ,
 t23 := Tryz.underlying190,
 a23 := Tryz.isAgg190,
 z23 := Tryz.sizeOf190,
 v23 := Tryz.zeroValue190,
 t26 := iq,
 a26 := jK,
 z26 := jo,
 v26 := iy,
 t27 := Tryz.underlying317,
 a27 := Tryz.isAgg317,
 z27 := Tryz.sizeOf317,
 v27 := Tryz.zeroValue317,
 t28 := Tryz.underlying318,
 a28 := Tryz.isAgg318,
 z28 := Tryz.sizeOf318,
 v28 := Tryz.zeroValue318,
 t33 := Tryz.underlying128,
 a33 := Tryz.isAgg128,
 z33 := Tryz.sizeOf128,
 v33 := Tryz.zeroValue128}
def TV : Go.Shelf.Ren := ⟨fun | 6 => 282 | 8 => 318 | 9 => 310 | 11 => 337 | 13 => 177 | 12 => 332 | 23 => 238 | 24 => 239 | 14 => 345 | 15 => 346 | 16 => 347 | 17 => 348 | 18 => 349 | 19 => 350 | 20 => 351 | 21 => 352 | 22 => 353 | 25 => 360 | 26 => 278 | 27 => 279 | 28 => 361 | 29 => 362 | 30 => 363 | 31 => 366 | n => n, fun | 26 => 9 | 28 => 318 | 24 => 261 | 0 => 0 | 3 => 3 | 37 => 232 | 48 => 284 | 50 => 235 | 4 => 4 | 40 => 277 | 39 => 276 | 45 => 281 | 5 => 5 | 9 => 9 | 51 => 310 | 55 => 314 | 57 => 343 | 58 => 200 | 33 => 128 | n => n, fun | n => n⟩
theorem Uo : Go.Proofs.SlLaysZ.n6 Tryz.prog TV := {
 mixed := by kernel_rfl,
 f6 := ⟨Tryz.f282.name, by decide, Tryz.func282.trans (bB some (by kernel_rfl))⟩,
 f8 := ⟨Tryz.f318.name, by decide, Tryz.func318.trans (bB some (by kernel_rfl))⟩,
 f11 := ⟨Tryz.f337.name, by decide, Tryz.func337.trans (bB some (by kernel_rfl))⟩,
 t0 := iQ,
 a0 := kE,
 z0 := jY,
 v0 := je,
 t24 := ky,
 a24 := Tryz.isAgg261,
 z24 := Tryz.sizeOf261,
 v24 := kR,
 t26 := iq,
 a26 := jK,
 z26 := jo,
 v26 := iy,
 t28 := Tryz.underlying318,
 a28 := Tryz.isAgg318,
 z28 := Tryz.sizeOf318,
 v28 := Tryz.zeroValue318,
 i26 := by kernel_rfl}
end Go.Proofs.YtklbhegeiijbjaaGreat
namespace Go.Proofs.YtklbhegeiijbjaaGreat
open Go.IntKind renaming wrap → wi0
open Go.RowKit
set_option maxRecDepth 10000
noncomputable section
structure lC where
 lK : ByteArray
 lN : ByteArray
def lG (x : lC) : List Value := [.string x.lK, .string x.lN]
def me (x y : lC) : Bool := (np x.lK y.lK) && ((np x.lN y.lN) && true)
theorem mn {x y : lC} : me x y = true ↔ x = y := by
 cases x; cases y; simp [me, nU]
theorem nF (x : lC) : (lG x).length = 2 := rfl
theorem pJ (x : lC) : ∀ u ∈ lG x, u.oneCell' = true := by
 intro u hu
 simp only [lG, aS, dY, iY] at hu
 rcases hu with rfl | rfl <;> rfl
structure lD where
 Kind : Int
 Head : lC
 mX : ByteArray
 B : lC
 C : lC
 mQ : ByteArray
def lE (x : lD) : List Value := [.int .i64 x.Kind, .string x.Head.lK, .string x.Head.lN, .string x.mX, .string x.B.lK, .string x.B.lN, .string x.C.lK, .string x.C.lN, .string x.mQ]
def mO (x y : lD) : Bool := (x.Kind == y.Kind) && ((me x.Head y.Head) && ((np x.mX y.mX) && ((me x.B y.B) && ((me x.C y.C) && ((np x.mQ y.mQ) && true)))))
theorem ou {x y : lD} : mO x y = true ↔ x = y := by
 cases x; cases y; simp [mO, nU, mn]
theorem nl (x : lD) : (lE x).length = 9 := rfl
theorem pc (x : lD) : ∀ u ∈ lE x, u.oneCell' = true := by
 intro u hu
 simp only [lE, aS, dY, iY] at hu
 rcases hu with rfl | rfl | rfl | rfl | rfl | rfl | rfl | rfl | rfl <;> rfl
structure mc where
 lC : lC
 mX : ByteArray
def mS (x : mc) : List Value := [.string x.lC.lK, .string x.lC.lN, .string x.mX]
def Dy (x y : mc) : Bool := (me x.lC y.lC) && ((np x.mX y.mX) && true)
theorem yQ {x y : mc} : Dy x y = true ↔ x = y := by
 cases x; cases y; simp [Dy, nU, mn]
theorem so (x : mc) : (mS x).length = 3 := rfl
theorem BV (x : mc) : ∀ u ∈ mS x, u.oneCell' = true := by
 intro u hu
 simp only [mS, aS, dY, iY] at hu
 rcases hu with rfl | rfl | rfl <;> rfl
structure TK where
 X6 : Int
 X7 : Int
structure nk where
 e : Int
def nM (x : nk) : List Value := [.int .i64 x.e]
structure Key where
 mX : ByteArray
 Key : List Int
structure Signed where
 lD : lD
 Tag : List Int
structure Formula where
 Op : Int
 K : Int
 lC : lC
 Kids : List Formula
structure mI where
 Signed : Signed
 lM : Formula
structure nx where
 lC : lC
 lM : Formula
 nj : List lD
structure lH where
 Name : ByteArray
 lZ : List mI
 mq : List nx
structure NE where
 lK : lH
 Client : lH
 Formula : Formula
 xU : Int
 TB : TK
 OW : Int
 Tp : Int
 QC : Int
 Keys : List Key
structure ng where
 lH : lH
 mU : ByteArray
 Room : Int
 lV : List lD
 Shown : List lD
 ml : List lC
 ms : List lC
structure DR where
 Kind : Int
 xU : Int
 E : Int
 Name : ByteArray
 tW : List lC
 tV : List Signed
def qP (a0 : ByteArray) (a : Int) : Option Int :=
 some (Ae a0 a)
def uC (a0 : ByteArray) (a : Int) : Option Int :=
 ((qP a0 a).bind fun b => some b)
def ya  : List Int → Option Bool
 | [] => some true
 | c :: a => ((uC (⟨#[97, 98, 99, 100, 101, 102, 103, 104, 105, 106, 107, 108, 109, 110, 111, 112, 113, 114, 115, 116, 117, 118, 119, 120, 121, 122, 48, 49, 50, 51, 52, 53, 54, 55, 56, 57, 45]⟩ : ByteArray) c).bind fun b => (if (decide (b < 0)) then some false else (ya a)))
def EK (a0 : ByteArray) : Option Bool :=
 ((FB a0).bind fun a => ya a)
def rM (a0 : ByteArray) : Option Bool :=
 ((if (decide ((a0.size : Int) ≥ 1)) then some (decide ((a0.size : Int) ≤ 16)) else some false).bind fun x2 => ((if x2 then ((Da a0 0).bind fun a => ((uC (⟨#[97, 98, 99, 100, 101, 102, 103, 104, 105, 106, 107, 108, 109, 110, 111, 112, 113, 114, 115, 116, 117, 118, 119, 120, 121, 122]⟩ : ByteArray) (a.toNat : Int)).bind fun c => some (decide (c ≥ 0)))) else some false).bind fun d => ((if d then ((EK a0).bind fun b => some b) else some false).bind fun g => some g)))
def xf (a0 : List Int) : Option (List Int) :=
 ((oH 1 ([]) a0).bind fun a => some a)
def qT (a0 : lC) : Option Bool :=
 ((rM a0.lK).bind fun c => ((if c then ((rM a0.lN).bind fun a => some a) else some false).bind fun b => some b))
def pF (a0 a : ByteArray) : Option Int :=
 some (rJ a0 a)
def sc (a0 a : ByteArray) : Option Int :=
 ((pF a0 a).bind fun b => some b)
def vy  : List Int → Option Int
 | [] => some 0
 | a :: b => (if (a != 0) then some a else (vy b))
def xV (a0 : List Int) : Option Int :=
 vy a0
def pQ (a0 d : lC) : Option Int :=
 ((sc a0.lK d.lK).bind fun a => ((sc a0.lN d.lN).bind fun b => ((xV ([a, b])).bind fun c => some c)))
def wL (a0 : lD) : Option Bool :=
 ((qT a0.Head).bind fun x => (((if (a0.Kind == 1) then ((if x then ((rM a0.mX).bind fun b => some b) else some false).bind fun n => some (Sum.inr (n, (⟨a0.Kind, a0.Head, a0.mX, (⟨zS, zS⟩ : lC), (⟨zS, zS⟩ : lC), zS⟩ : lD)))) else (if (a0.Kind == 2) then ((if x then ((qT a0.B).bind fun c => some c) else some false).bind fun o => some (Sum.inr (o, (⟨a0.Kind, a0.Head, zS, a0.B, (⟨zS, zS⟩ : lC), zS⟩ : lD)))) else (if (a0.Kind == 3) then ((if x then ((qT a0.B).bind fun g => some g) else some false).bind fun q => ((if q then some (np a0.B.lK a0.Head.lK) else some false).bind fun r => ((if r then ((rM a0.mQ).bind fun d => some d) else some false).bind fun t => some (Sum.inr (t, (⟨a0.Kind, a0.Head, zS, a0.B, (⟨zS, zS⟩ : lC), a0.mQ⟩ : lD)))))) else (if (a0.Kind == 4) then ((if x then ((qT a0.B).bind fun j => some j) else some false).bind fun u => ((if u then ((qT a0.C).bind fun i => some i) else some false).bind fun v => ((if v then ((pQ a0.B a0.C).bind fun h => some (decide (h < 0))) else some false).bind fun w => some (Sum.inr (w, (⟨a0.Kind, a0.Head, zS, a0.B, a0.C, zS⟩ : lD)))))) else some (Sum.inl false))))) : Option (Bool ⊕ (Bool × lD))).bind fun s => match s with | .inl a => some a | .inr (k, l) => ((if k then some (mO l a0) else some false).bind fun m => some m)))
def sH  : Nat → Int → (List Int) → Option (Bool × (List Int))
 | 0, _, _ => none
 | g + 1, a, c => (if (decide (a ≥ 128)) then ((oH 1 c ([(IntKind.u8.wrap (BitVec.ofInt (IntKind.bits .u8) (IntKind.u8.wrap a) ||| BitVec.ofInt (IntKind.bits .u8) 128).toNat)])).bind fun d => (sH g (Int.fdiv a (2 ^ min (Int.toNat 7) (IntKind.bits .i64))) d)) else ((oH 1 c ([(IntKind.u8.wrap a)])).bind fun b => some (true, b)))
def qi (a : List Int) (b : Int) : Option (Bool × (List Int)) :=
 (if (decide (b < 0)) then some (false, a) else sH mR b a)
def As (a b : List Int) : Option (Bool × (List Int)) :=
 (if (decide ((b.length : Int) > 2048)) then some (false, a) else ((qi a (b.length : Int)).bind fun d => ((oH 1 d.2 b).bind fun c => some (true, c))))
def wJ (a : List Int) (h : ByteArray) : Option (Bool × (List Int)) :=
 ((rM h).bind fun i => (((if i then ((FB h).bind fun d => ((As a d).bind fun b => some (b.1, b.2))) else some (false, a)) : Option (Bool × (List Int))).bind fun (g, c) => some (g, c)))
def sI (a : List Int) (g : lC) : Option (Bool × (List Int)) :=
 ((qT g).bind fun k => (((if k then ((wJ a g.lK).bind fun d => some (d.1, d.2)) else some (false, a)) : Option (Bool × (List Int))).bind fun (i, b) => (((if i then ((wJ b g.lN).bind fun c => some (c.1, c.2)) else some (false, b)) : Option (Bool × (List Int))).bind fun (j, h) => some (j, h))))
def wI (a : List Int) : Option (List Int) :=
 ((xf a).bind fun b => some b)
def zD (a0 : lD) : Option (List Int) :=
 ((wL a0).bind fun l => (if (!l) then some [] else ((qi ([]) a0.Kind).bind fun m => ((sI m.2 a0.Head).bind fun a => (((if (a0.Kind == 1) then ((wJ a.2 a0.mX).bind fun d => some d.2) else (if (a0.Kind == 2) then ((sI a.2 a0.B).bind fun g => some g.2) else (if (a0.Kind == 3) then ((sI a.2 a0.B).bind fun h => ((wJ h.2 a0.mQ).bind fun i => some i.2)) else (if (a0.Kind == 4) then ((sI a.2 a0.B).bind fun j => ((sI j.2 a0.C).bind fun k => some k.2)) else some a.2)))) : Option (List Int)).bind fun b => ((wI b).bind fun c => some c))))))
def CZ (a0 a : List Int) : Option Bool :=
 some (np (CM a0) (CM a))
def sn (a0 : List lD) : Option (List lD) :=
 ((oH 136 ([]) a0).bind fun a => some a)
def qQ (f1 : lD → Option Bool) : List lD → Nat → Option Int
 | [], _ => some (-1)
 | c :: a, i35 => ((f1 c).bind fun b => (if b then some (i35 : Int) else (qQ f1 a (i35 + 1))))
def sb (a0 : List lD) (f1 : lD → Option Bool) : Option Int :=
 qQ f1 a0 0
def pH (f1 : lD → Option Bool) : Nat → (List lD) → Int → Int → Option (List lD)
 | 0, _, _, _ => none
 | n321 + 1, b, a, c => (if (decide (c < (b.length : Int))) then ((((nG b c).bind fun d => ((f1 d).bind fun h => (if (!h) then ((nG b a).bind fun j => some ((b.set (Int.toNat a) d), (wi0 .i64 (a + 1)))) else some (b, a)))) : Option ((List lD) × Int)).bind fun (g, i) => (pH f1 n321 g i (wi0 .i64 (c + 1)))) else ((rU (decide (0 ≤ a) && decide (a ≤ (b.length : Int)))).bind fun _ => ((rU (decide (0 ≤ a) && decide (a ≤ ((pV b (Int.toNat a) (⟨0, (⟨zS, zS⟩ : lC), zS, (⟨zS, zS⟩ : lC), (⟨zS, zS⟩ : lC), zS⟩ : lD)).length : Int)))).bind fun _ => some ((pV b (Int.toNat a) (⟨0, (⟨zS, zS⟩ : lC), zS, (⟨zS, zS⟩ : lC), (⟨zS, zS⟩ : lC), zS⟩ : lD)).take (Int.toNat a)))))
def pE (a0 : List lD) (f1 : lD → Option Bool) : Option (List lD) :=
 ((sb a0 f1).bind fun a => (if (a == (-1)) then some a0 else pH f1 mR a0 a (wi0 .i64 (a + 1))))
def AL (a0 : lD) : Option Bool :=
 ((wL a0).bind fun a => some (!a))
def zo (a0 a : List Int) : Option Int :=
 some (Ba a0 a)
def wu (a0 d : lD) : Option Int :=
 ((zD a0).bind fun a => ((zD d).bind fun b => ((zo a b).bind fun c => some c)))
def qn (b : Int) : Nat → (List lD) → Int → Int → Option ((List lD) × Int)
 | 0, _, _, _ => none
 | h + 1, a, c, d => (if (decide (d < ((a.length - (Int.toNat b) : Nat) : Int))) then ((((nG (a.drop (Int.toNat b)) d).bind fun j => ((nG (a.drop (Int.toNat b)) (wi0 .i64 (d - 1))).bind fun k => (if (!(mO j k)) then ((nG (a.drop (Int.toNat b)) d).bind fun l => ((nG a c).bind fun m => some ((a.set (Int.toNat c) l), (wi0 .i64 (c + 1))))) else some (a, c)))) : Option ((List lD) × Int)).bind fun (g, i) => (qn b h g i (wi0 .i64 (d + 1)))) else some (a, c))
def qw (a0 : List lD) : Nat → Int → Option (List lD)
 | 0, _ => none
 | d + 1, a => (if (decide (a < (a0.length : Int))) then ((nG a0 a).bind fun g => ((nG a0 (wi0 .i64 (a - 1))).bind fun h => (if (mO g h) then ((rU (decide (0 ≤ a) && decide (a ≤ (a0.length : Int)))).bind fun _ => ((qn a mR a0 a 1).bind fun (c, b) => ((rU (decide (0 ≤ b) && decide (b ≤ (c.length : Int)))).bind fun _ => ((rU (decide (0 ≤ b) && decide (b ≤ ((pV c (Int.toNat b) (⟨0, (⟨zS, zS⟩ : lC), zS, (⟨zS, zS⟩ : lC), (⟨zS, zS⟩ : lC), zS⟩ : lD)).length : Int)))).bind fun _ => some ((pV c (Int.toNat b) (⟨0, (⟨zS, zS⟩ : lC), zS, (⟨zS, zS⟩ : lC), (⟨zS, zS⟩ : lC), zS⟩ : lD)).take (Int.toNat b)))))) else (qw a0 d (wi0 .i64 (a + 1)))))) else some a0)
def vA (a0 : List lD) : Option (List lD) :=
 (if (decide ((a0.length : Int) < 2)) then some a0 else qw a0 mR 1)
def pj (a0 : List lD) : Option (List lD) :=
 ((sn a0).bind fun d => ((pE d (fun (x : lD) => AL x)).bind fun a => ((AT (fun (x : (lD × lD)) => wu x.1 x.2) a).bind fun b => ((vA b).bind fun c => some c))))
def su (c : lD) : List lD → Nat → Option Int
 | [], _ => some (-1)
 | b :: a, i46 => (if (mO c b) then some (i46 : Int) else (su c a (i46 + 1)))
def zd (a0 : List lD) (a : lD) : Option Int :=
 su a a0 0
def vd (a0 : List lD) (a : lD) : Option Bool :=
 ((zd a0 a).bind fun b => some (decide (b ≥ 0)))
def rZ (a0 : List lD) (a : lD) : Option Bool :=
 ((vd a0 a).bind fun b => some b)
def zu (a0 : lD) : Option (List lC) :=
 ((wL a0).bind fun g => (if (!g) then some [] else (((if (a0.Kind != 1) then ((oH 32 ([a0.Head]) ([a0.B])).bind fun d => some d) else some ([a0.Head])) : Option (List lC)).bind fun a => (((if (a0.Kind == 4) then ((oH 32 a ([a0.C])).bind fun c => some c) else some a) : Option (List lC)).bind fun b => some b))))
def qL (h : lD) (a : List (ByteArray × (List lD))) (d : List lD) : List lC → (List (lC × (List lD))) → Option ((List lD) × (List (lC × (List lD))) × (List (ByteArray × (List lD))))
 | [], b => (if (h.Kind == 3) then ((oH 136 ((nE np a h.mQ).getD []) ([h])).bind fun j => some (d, b, (pu np a h.mQ j))) else some (d, b, a))
 | c :: g, b => ((oH 136 ((nE me b c).getD []) ([h])).bind fun i => (qL h a d g (pu me b c i)))
def wi (h : List (lC × (List (ByteArray × Bool)))) (a : List lD) (c : List (lC × (List lD))) (b : List (ByteArray × (List lD))) (d : List mc) (k : Int) (i : lD) : Option ((List lD) × (List (lC × (List lD))) × (List (ByteArray × (List lD)))) :=
 ((oH 136 a ([i])).bind fun j => ((zu i).bind fun g => ((rU (decide (0 ≤ 1) && decide (1 ≤ (g.length : Int)))).bind fun _ => qL i b j (g.drop (Int.toNat 1)) c)))
def pW (a : List (lC × (List (ByteArray × Bool)))) (d : List lD) (h : List (lC × (List lD))) (g : List (ByteArray × (List lD))) (b : List mc) (c : Int) (i : lC) (a2 : ByteArray) : Option ((List (lC × (List (ByteArray × Bool)))) × (List mc) × Int) :=
 (if (zn np ((nE me a i).getD []) a2 false) then some (a, b, c) else (((if (nE me a i).isNone then ((Jm me a i ([])).bind fun j => some j) else some a) : Option (List (lC × (List (ByteArray × Bool))))).bind fun k => ((IV me np k i a2 true).bind fun l => ((oH 48 b ([(⟨i, a2⟩ : mc)])).bind fun m => some (l, m, (wi0 .i64 (c + 1)))))))
def qW (a0 : List (ByteArray × Bool)) : Option Unit :=
 some ()
def tm (a : List (lC × (List (ByteArray × Bool)))) (b : List lD) (g : List (lC × (List lD))) (c : List (ByteArray × (List lD))) (d : List mc) (i : Int) (j : lC) : Option (List ByteArray) :=
 ((qW ((nE me a j).getD [])).bind fun k => ((Jz ((nE me a j).getD [])).bind fun h => some h))
def sv (a : List lD) (c : List (lC × (List lD))) (b : List (ByteArray × (List lD))) (a2 : lC) : List ByteArray → (List (lC × (List (ByteArray × Bool)))) → (List mc) → Int → Option ((List (lC × (List (ByteArray × Bool)))) × (List mc) × Int)
 | [], d, g, i => some (d, g, i)
 | k :: j, d, g, i => ((pW d a c b g i a2 k).bind fun h => (sv a c b a2 j h.1 h.2.1 h.2.2))
def wV (g : List (lC × (List (ByteArray × Bool)))) (a : List lD) (d : List (lC × (List lD))) (b : List (ByteArray × (List lD))) (c : List mc) (h : Int) (i a2 : lC) : Option ((List (lC × (List (ByteArray × Bool)))) × (List mc) × Int) :=
 ((tm g a d b c h i).bind fun j => sv a d b a2 j g c h)
def uz (a : List (lC × (List (ByteArray × Bool)))) (c : List lD) (g : List (lC × (List lD))) (d : List (ByteArray × (List lD))) (b : List mc) (h : Int) (i : lD) (a2 : mc) : Option ((List (lC × (List (ByteArray × Bool)))) × (List mc) × Int) :=
 (if (i.Kind == 2) then ((pW a c g d b h i.Head a2.mX).bind fun l => some (l.1, l.2.1, l.2.2)) else (if (i.Kind == 3) then ((wV a c g d b h (⟨a2.mX, i.mQ⟩ : lC) i.Head).bind fun j => some (j.1, j.2.1, j.2.2)) else (if (i.Kind == 4) then ((if (zn np ((nE me a i.B).getD []) a2.mX false) then some (zn np ((nE me a i.C).getD []) a2.mX false) else some false).bind fun m => (if m then ((pW a c g d b h i.Head a2.mX).bind fun k => some (k.1, k.2.1, k.2.2)) else some (a, b, h))) else some (a, b, h))))
def rI (a : List lD) (c : List (lC × (List lD))) (b : List (ByteArray × (List lD))) (l : lD) : List ByteArray → (List (lC × (List (ByteArray × Bool)))) → (List mc) → Int → Option ((List (lC × (List (ByteArray × Bool)))) × (List mc) × Int)
 | [], d, g, i => some (d, g, i)
 | k :: j, d, g, i => ((uz d a c b g i l (⟨l.B, k⟩ : mc)).bind fun h => (rI a c b l j h.1 h.2.1 h.2.2))
def vz (g : List (lC × (List (ByteArray × Bool)))) (a : List lD) (d : List (lC × (List lD))) (b : List (ByteArray × (List lD))) (c : List mc) (h : Int) (i : lD) : Option ((List (lC × (List (ByteArray × Bool)))) × (List mc) × Int) :=
 (if (i.Kind == 1) then ((pW g a d b c h i.Head i.mX).bind fun k => some (k.1, k.2.1, k.2.2)) else ((tm g a d b c h i.B).bind fun j => rI a d b i j g c h))
def qa (h : mc) (a : List lD) (c : List (lC × (List lD))) (b : List (ByteArray × (List lD))) : List lD → (List (lC × (List (ByteArray × Bool)))) → (List mc) → Int → Option ((List (lC × (List (ByteArray × Bool)))) × (List mc) × Int)
 | [], d, g, i => some (d, g, i)
 | l :: k, d, g, i => (if (zn np ((nE me d l.B).getD []) h.lC.lK false) then ((pW d a c b g i l.Head h.mX).bind fun j => (qa h a c b k j.1 j.2.1 j.2.2)) else (qa h a c b k d g i))
def rp (a : List lD) (c : List (lC × (List lD))) (b : List (ByteArray × (List lD))) (j : mc) : List lD → (List (lC × (List (ByteArray × Bool)))) → (List mc) → Int → Option ((List (lC × (List (ByteArray × Bool)))) × (List mc) × Int)
 | [], d, g, i => some (d, g, i)
 | l :: k, d, g, i => ((uz d a c b g i l j).bind fun h => (rp a c b j k h.1 h.2.1 h.2.2))
def py (c : List lD) (b : List (lC × (List lD))) (a : List (ByteArray × (List lD))) : Nat → (List (lC × (List (ByteArray × Bool)))) → (List mc) → Int → Option ((List (lC × (List (ByteArray × Bool)))) × (List mc) × Int)
 | 0, _, _, _ => none
 | n + 1, h, d, i => (if (decide ((d.length : Int) > 0)) then ((nG d 0).bind fun g => ((rU (decide (0 ≤ 1) && decide (1 ≤ (d.length : Int)))).bind fun _ => ((rp c b a g ((nE me b g.lC).getD []) h (d.drop (Int.toNat 1)) i).bind fun (j, k, o) => ((qa g c b a ((nE np a g.lC.lN).getD []) j k o).bind fun (l, m, q) => (py c b a n l m q))))) else some (h, d, i))
def xE (g : List (lC × (List (ByteArray × Bool)))) (a : List lD) (d : List (lC × (List lD))) (b : List (ByteArray × (List lD))) (c : List mc) (h : Int) : Option ((List (lC × (List (ByteArray × Bool)))) × (List mc) × Int) :=
 py a d b mR g c h
def pY (l : Int) : List lD → (List (lC × (List (ByteArray × Bool)))) → (List lD) → (List (lC × (List lD))) → (List (ByteArray × (List lD))) → (List mc) → Int → Option (Int × (List (lC × (List (ByteArray × Bool)))) × (List lD) × (List (lC × (List lD))) × (List (ByteArray × (List lD))) × (List mc) × Int)
 | [], c, a, d, g, h, i => ((xE c a d g h i).bind fun j => some ((wi0 .i64 (j.2.2 - l)), j.1, a, d, g, j.2.1, j.2.2))
 | k :: n, c, a, d, g, h, i => ((wL k).bind fun o => ((if o then ((rZ a k).bind fun q => some (!q)) else some false).bind fun r => (if r then ((wi c a d g h i k).bind fun b => ((vz c b.1 b.2.1 b.2.2 h i k).bind fun m => (pY l n m.1 b.1 b.2.1 b.2.2 m.2.1 m.2.2))) else (pY l n c a d g h i))))
def wU (g : List (lC × (List (ByteArray × Bool)))) (a : List lD) (d : List (lC × (List lD))) (b : List (ByteArray × (List lD))) (c : List mc) (h : Int) (i : List lD) : Option (Int × (List (lC × (List (ByteArray × Bool)))) × (List lD) × (List (lC × (List lD))) × (List (ByteArray × (List lD))) × (List mc) × Int) :=
 pY h i g a d b c h
def yq (a0 : List lD) : Option ((List (lC × (List (ByteArray × Bool)))) × (List lD) × (List (lC × (List lD))) × (List (ByteArray × (List lD))) × (List mc) × Int) :=
 ((wU ([]) ([]) ([]) ([]) ([]) 0 a0).bind fun a => some (a.2.1, a.2.2.1, a.2.2.2.1, a.2.2.2.2.1, a.2.2.2.2.2.1, a.2.2.2.2.2.2))
def sK (a0 d : mc) : Option Int :=
 ((pQ a0.lC d.lC).bind fun a => ((sc a0.mX d.mX).bind fun b => ((xV ([a, b])).bind fun c => some c)))
def zc (c : List (lC × (List (ByteArray × Bool)))) (d : List lD) (i : List (lC × (List lD))) (g : List (ByteArray × (List lD))) (h : List mc) (k : Int) : Option (List mc) :=
 ((Rj 48 (fun (a : lC) (b : ByteArray) => (⟨a, b⟩ : mc)) c).bind fun l => Hu l (fun j => ((AT (fun (x : (mc × mc)) => sK x.1 x.2) j).bind fun m => some m)))
def uN (a : List (lC × (List (ByteArray × Bool)))) (b : List lD) (g : List (lC × (List lD))) (c : List (ByteArray × (List lD))) (d : List mc) (h : Int) (i : lC) (a2 : ByteArray) : Option Bool :=
 some (zn np ((nE me a i).getD []) a2 false)
def uF  : List lD → Int → Option Int
 | [], b => some b
 | a :: c, b => (uF c (wi0 .i64 (b + (wi0 .i64 ((wi0 .i64 ((wi0 .i64 ((wi0 .i64 ((wi0 .i64 ((wi0 .i64 ((wi0 .i64 ((wi0 .i64 (20 + (a.Head.lK.size : Int))) + (a.Head.lN.size : Int))) + (a.mX.size : Int))) + (a.B.lK.size : Int))) + (a.B.lN.size : Int))) + (a.C.lK.size : Int))) + (a.C.lN.size : Int))) + (a.mQ.size : Int))))))
def sP (a0 : List lD) : Option Int :=
 uF a0 0
def wG  : List Signed → Int → Option Int
 | [], a => some a
 | b :: c, a => ((sP ([b.lD])).bind fun d => (wG c (wi0 .i64 (a + (wi0 .i64 (d + (b.Tag.length : Int)))))))
def yw (g : List Signed) : List Key → Int → Option Int
 | [], a => ((wG g a).bind fun b => some b)
 | c :: d, a => (yw g d (wi0 .i64 (a + (wi0 .i64 ((wi0 .i64 (10 + (c.mX.size : Int))) + (c.Key.length : Int))))))
def AW (a0 : List Key) (a : List Signed) : Option Int :=
 yw a a0 0
def sU (a0 : ByteArray) : Nat → Int → Option Bool
 | 0, _ => none
 | c + 1, b => (if (decide (b < (a0.size : Int))) then ((Da a0 b).bind fun a => ((if (decide ((a.toNat : Int) < 97)) then some true else some (decide ((a.toNat : Int) > 122))).bind fun d => ((if d then ((if (decide ((a.toNat : Int) < 48)) then some true else some (decide ((a.toNat : Int) > 57))).bind fun i => some i) else some false).bind fun g => ((if g then some ((a.toNat : Int) != 45) else some false).bind fun h => (if h then some false else (sU a0 c (wi0 .i64 (b + 1)))))))) else some true)
def ul (a0 : ByteArray) : Option Bool :=
 ((if (np a0 zS) then some true else some (decide ((a0.size : Int) > 16))).bind fun x2 => ((if x2 then some true else ((Da a0 0).bind fun b => some (decide ((b.toNat : Int) < 97)))).bind fun c => ((if c then some true else ((Da a0 0).bind fun a => some (decide ((a.toNat : Int) > 122)))).bind fun d => (if d then some false else sU a0 mR 0))))
def vR (a0 : lC) : Option Bool :=
 ((ul a0.lK).bind fun c => ((if c then ((ul a0.lN).bind fun a => some a) else some false).bind fun b => some b))
def zw (a0 a : lC) : Option Bool :=
 ((if (tp a0.lK a.lK) then some true else ((if (np a0.lK a.lK) then some (tp a0.lN a.lN) else some false).bind fun c => some c)).bind fun b => some b)
def yO (a0 : lD) : Option Bool :=
 ((vR a0.Head).bind fun s => (if (!s) then some false else (if (a0.Kind == 1) then ((ul a0.mX).bind fun h => ((if h then some (me a0.B (⟨zS, zS⟩ : lC)) else some false).bind fun j => ((if j then some (me a0.C (⟨zS, zS⟩ : lC)) else some false).bind fun k => ((if k then some (np a0.mQ zS) else some false).bind fun l => some l)))) else ((if (!(np a0.mX zS)) then some true else ((vR a0.B).bind fun c => some (!c))).bind fun m => (if m then some false else (if (a0.Kind == 2) then ((if (me a0.C (⟨zS, zS⟩ : lC)) then some (np a0.mQ zS) else some false).bind fun n => some n) else (if (a0.Kind == 3) then ((if (me a0.C (⟨zS, zS⟩ : lC)) then some (np a0.B.lK a0.Head.lK) else some false).bind fun o => ((if o then ((ul a0.mQ).bind fun i => some i) else some false).bind fun q => some q)) else ((if (a0.Kind == 4) then some (np a0.mQ zS) else some false).bind fun r => ((if r then ((vR a0.C).bind fun b => some b) else some false).bind fun d => ((if d then ((zw a0.B a0.C).bind fun a => some a) else some false).bind fun g => some g))))))))))
def vW  : Nat → Int → ByteArray → Option ByteArray
 | 0, _, _ => none
 | n45 + 1, a, b => (if (decide (a ≥ 128)) then ((B3 b (CM ([(IntKind.u8.wrap (wi0 .i64 (128 + (Int.tmod a 128))))]))).bind fun c => (vW n45 (wi0 .i64 (Int.tdiv a 128)) c)) else ((B3 b (CM ([(IntKind.u8.wrap a)]))).bind fun d => some d))
def yf (a0 : Int) : Option ByteArray :=
 vW mR a0 zS
def wO (a0 : ByteArray) : Option ByteArray :=
 ((yf (a0.size : Int)).bind fun a => ((B3 a a0).bind fun b => some b))
def xc (a0 : lC) : Option ByteArray :=
 ((wO a0.lK).bind fun a => ((wO a0.lN).bind fun b => ((B3 a b).bind fun c => some c)))
def CR (a0 : lD) : Option ByteArray :=
 ((yf a0.Kind).bind fun d => ((xc a0.Head).bind fun g => ((B3 d g).bind fun a => (if (a0.Kind == 1) then ((wO a0.mX).bind fun h => ((B3 a h).bind fun l => some l)) else ((xc a0.B).bind fun i => ((B3 a i).bind fun b => (((if (a0.Kind == 3) then ((wO a0.mQ).bind fun k => ((B3 b k).bind fun n => some n)) else some b) : Option ByteArray).bind fun c => (((if (a0.Kind == 4) then ((xc a0.C).bind fun j => ((B3 c j).bind fun m => some m)) else some c) : Option ByteArray).bind fun o => some o))))))))
def yJ (a0 : lD) : Option ByteArray :=
 ((yO a0).bind fun a => (if (!a) then some zS else ((CR a0).bind fun b => some b)))
def vC (a0 c : lD) : Option Int :=
 ((yJ a0).bind fun a => ((yJ c).bind fun b => (if (tp a b) then some (-1) else (if (!(tp a b || np a b)) then some 1 else some 0))))
def uK (a : List lD) : List lD → Bool → lD → Option (Bool × lD)
 | [], c, d => some (c, d)
 | b :: g, c, d => ((yO b).bind fun h => ((if h then ((if ((a.length : Int) == 0) then some true else ((nG a (wi0 .i64 ((a.length : Int) - 1))).bind fun o => ((vC o b).bind fun j => some (decide (j < 0))))).bind fun n => some n) else some false).bind fun k => ((if k then ((if (!c) then some true else ((vC b d).bind fun i => some (decide (i < 0)))).bind fun m => some m) else some false).bind fun l => (if l then (uK a g true b) else (uK a g c d)))))
def wq (a0 : List lD) : Nat → (List lD) → Option (List lD)
 | 0, _ => none
 | c + 1, a => ((uK a a0 false (⟨0, (⟨zS, zS⟩ : lC), zS, (⟨zS, zS⟩ : lC), (⟨zS, zS⟩ : lC), zS⟩ : lD)).bind fun (d, g) => (if (!d) then some a else ((oH 136 a ([g])).bind fun b => (wq a0 c b))))
def E4 (a0 : List lD) : Option (List lD) :=
 wq a0 mR ([])
def xu (d : List lD) : List lD → Nat → Option Bool
 | [], _ => some true
 | c :: b, i90 => ((nG d (i90 : Int)).bind fun a => (if (!(mO c a)) then some false else (xu d b (i90 + 1))))
def Bv (a0 a : List lD) : Option Bool :=
 (if ((a0.length : Int) != (a.length : Int)) then some false else xu a a0 0)
def zU (c : lD) : List lD → Option Bool
 | [] => some false
 | b :: a => (if (mO b c) then some true else (zU c a))
def Az (a0 : List lD) (a : lD) : Option Bool :=
 zU a a0
def uR (a : List ByteArray) : List ByteArray → ByteArray → Option ByteArray
 | [], c => some c
 | b :: d, c => ((ul b).bind fun h => ((if h then ((if ((a.length : Int) == 0) then some true else ((nG a (wi0 .i64 ((a.length : Int) - 1))).bind fun g => some (!(tp b g || np b g)))).bind fun l => some l) else some false).bind fun i => ((if i then ((if (np c zS) then some true else some (tp b c)).bind fun k => some k) else some false).bind fun j => (if j then (uR a d b) else (uR a d c)))))
def wv (a0 : List ByteArray) : Nat → (List ByteArray) → Option (List ByteArray)
 | 0, _ => none
 | d + 1, a => ((uR a a0 zS).bind fun b => (if (np b zS) then some a else ((oH 16 a ([b])).bind fun c => (wv a0 d c))))
def Ck (a0 : List ByteArray) : Option (List ByteArray) :=
 wv a0 mR ([])
def uU  : List lD → (List ByteArray) → Option (List ByteArray)
 | [], b => ((Ck b).bind fun d => some d)
 | a :: g, b => ((oH 16 b ([a.mX, a.Head.lK, a.B.lK, a.C.lK])).bind fun c => (uU g c))
def AI (a0 : List lD) : Option (List ByteArray) :=
 uU a0 ([])
def yG (d : lC) (a2 : ByteArray) : List mc → Option Bool
 | [] => some false
 | b :: c => ((if (me b.lC d) then some (np b.mX a2) else some false).bind fun a => (if a then some true else (yG d a2 c)))
def xt (a0 : List mc) (a : lC) (a2 : ByteArray) : Option Bool :=
 yG a a2 a0
def xm (a0 : List mc) (h : lD) (a3 : ByteArray) : List ByteArray → Option Bool
 | [] => some false
 | a :: b => ((xt a0 h.B a).bind fun c => ((if c then ((xt a0 (⟨a, h.mQ⟩ : lC) a3).bind fun d => some d) else some false).bind fun g => (if g then some true else (xm a0 h a3 b))))
def Bz (a0 : List mc) (a : lD) (a2 : List ByteArray) (a3 : ByteArray) : Option Bool :=
 (if (a.Kind == 1) then some (np a.mX a3) else (if (a.Kind == 2) then ((xt a0 a.B a3).bind fun d => some d) else (if (a.Kind == 4) then ((xt a0 a.B a3).bind fun g => ((if g then ((xt a0 a.C a3).bind fun b => some b) else some false).bind fun c => some c)) else xm a0 a a3 a2)))
def wA (a0 a : mc) : Option Bool :=
 ((zw a0.lC a.lC).bind fun d => ((if d then some true else ((if (me a0.lC a.lC) then some (tp a0.mX a.mX) else some false).bind fun c => some c)).bind fun b => some b))
def rh (b a0 : List mc) : List mc → Nat → Int → Option Int
 | [], _, a => some a
 | g :: d, c, a => ((if ((b.length : Int) == 0) then some true else ((nG b (wi0 .i64 ((b.length : Int) - 1))).bind fun n => ((wA n g).bind fun i => some i))).bind fun j => ((if j then ((if (decide (a < 0)) then some true else ((nG a0 a).bind fun m => ((wA g m).bind fun h => some h))).bind fun l => some l) else some false).bind fun k => (if k then (rh b a0 d (c + 1) (c : Int)) else (rh b a0 d (c + 1) a))))
def re (a0 : List mc) : List mc → (List mc) → Option (List mc)
 | [], a => some a
 | h :: c, a => ((rh a a0 a0 0 (-1)).bind fun b => (if (decide (b ≥ 0)) then ((nG a0 b).bind fun g => ((oH 48 a ([g])).bind fun d => (re a0 c d))) else (re a0 c a)))
def Cc (a0 : List mc) : Option (List mc) :=
 re a0 a0 ([])
def xe (b : lD) (l : List ByteArray) : List ByteArray → (List mc) → Bool → Option ((List mc) × Bool)
 | [], a, d => some (a, d)
 | c :: g, a, d => ((xt a b.Head c).bind fun i => ((if (!i) then ((Bz a b l c).bind fun j => some j) else some false).bind fun k => (if k then ((oH 48 a ([(⟨b.Head, c⟩ : mc)])).bind fun h => (xe b l g h true)) else (xe b l g a d))))
def yP (i : List ByteArray) : List lD → (List mc) → Bool → Option ((List mc) × Bool)
 | [], a, b => some (a, b)
 | g :: c, a, b => ((xe g i i a b).bind fun (d, h) => (yP i c d h))
def xb (h : List ByteArray) (i : List lD) : Nat → (List mc) → Option (List mc)
 | 0, _ => none
 | b + 1, g => ((yP h i g false).bind fun (a, d) => (if (!d) then ((Cc a).bind fun c => some c) else (xb h i b a)))
def zO (a0 : List lD) : Option (List mc) :=
 ((E4 a0).bind fun b => ((AI b).bind fun a => xb a b mR ([])))
def By (a0 : List lD) (b : ByteArray) : Option ((List (lC × (List (ByteArray × Bool)))) × (List lD) × (List (lC × (List lD))) × (List (ByteArray × (List lD))) × (List mc) × Int × ByteArray) :=
 ((yq a0).bind fun a => some (a.1, a.2.1, a.2.2.1, a.2.2.2.1, a.2.2.2.2.1, a.2.2.2.2.2, b))
def pw (f1 : mI → Option Bool) : List mI → Nat → Option Int
 | [], _ => some (-1)
 | c :: a, i47 => ((f1 c).bind fun b => (if b then some (i47 : Int) else (pw f1 a (i47 + 1))))
def qX (a0 : List mI) (f1 : mI → Option Bool) : Option Int :=
 pw f1 a0 0
def zi (a0 : mI) (a : lD) : Option Bool :=
 some (mO a0.Signed.lD a)
def Bq (a0 : lH) (c : lD) : Option (mI × Bool) :=
 ((qX a0.lZ (fun (x : mI) => zi x c)).bind fun a => (if (decide (a < 0)) then some ((⟨(⟨(⟨0, (⟨zS, zS⟩ : lC), zS, (⟨zS, zS⟩ : lC), (⟨zS, zS⟩ : lC), zS⟩ : lD), []⟩ : Signed), (⟨0, 0, (⟨zS, zS⟩ : lC), []⟩ : Formula)⟩ : mI), false) else ((nG a0.lZ a).bind fun b => some (b, true))))
def qH (a0 : List nx) : Option (List nx) :=
 ((oH 128 ([]) a0).bind fun a => some a)
def qb (f1 : nx → Option Bool) : List nx → Nat → Option Int
 | [], _ => some (-1)
 | c :: a, i47 => ((f1 c).bind fun b => (if b then some (i47 : Int) else (qb f1 a (i47 + 1))))
def rc (a0 : List nx) (f1 : nx → Option Bool) : Option Int :=
 qb f1 a0 0
def pR (f1 : nx → Option Bool) : Nat → (List nx) → Int → Int → Option (List nx)
 | 0, _, _, _ => none
 | h + 1, b, a, c => (if (decide (c < (b.length : Int))) then ((((nG b c).bind fun d => ((f1 d).bind fun i => (if (!i) then ((nG b a).bind fun k => some ((b.set (Int.toNat a) d), (wi0 .i64 (a + 1)))) else some (b, a)))) : Option ((List nx) × Int)).bind fun (g, j) => (pR f1 h g j (wi0 .i64 (c + 1)))) else ((rU (decide (0 ≤ a) && decide (a ≤ (b.length : Int)))).bind fun _ => ((rU (decide (0 ≤ a) && decide (a ≤ ((pV b (Int.toNat a) (⟨(⟨zS, zS⟩ : lC), (⟨0, 0, (⟨zS, zS⟩ : lC), []⟩ : Formula), []⟩ : nx)).length : Int)))).bind fun _ => some ((pV b (Int.toNat a) (⟨(⟨zS, zS⟩ : lC), (⟨0, 0, (⟨zS, zS⟩ : lC), []⟩ : Formula), []⟩ : nx)).take (Int.toNat a)))))
def pd (a0 : List nx) (f1 : nx → Option Bool) : Option (List nx) :=
 ((rc a0 f1).bind fun a => (if (a == (-1)) then some a0 else pR f1 mR a0 a (wi0 .i64 (a + 1))))
def uV (a0 : nx) (a : lD) : Option Bool :=
 ((rZ a0.nj a).bind fun b => some (!b))
def AP (a0 : lH) (b : lD) : Option (List nx) :=
 ((qH a0.mq).bind fun c => ((pd c (fun (x : nx) => uV x b)).bind fun a => some a))
def rO (g : Int) (rec : Formula → Int → Option (Int × Int)) : List Formula → Int → Int → Option (Int × Int)
 | [], a, c => some (a, c)
 | h :: d, a, c => (if (decide (a > g)) then some (a, c) else ((rec h (wi0 .i64 (g - a))).bind fun b => (rO g rec d (wi0 .i64 (a + b.1)) (if b.2 > c then b.2 else c))))
def yp (rec : Formula → Int → Option (Int × Int)) (a0 : Formula) (c : Int) : Option (Int × Int) :=
 ((rO c rec a0.Kids 1 0).bind fun (a, b) => some (a, (wi0 .i64 (b + 1))))
def qy : Nat → Formula → Int → Option (Int × Int)
 | 0 => fun _ _ => none
 | n + 1 => yp (qy n)
def zZ (a0 : Formula) : Option (Int × Int) :=
 ((qy mR a0 4096).bind fun a => (if (decide (a.1 > 4096)) then some (0, 0) else some (a.1, a.2)))
def zY (a0 : Formula) : Option Bool :=
 (if (a0.Op == 1) then ((qT a0.lC).bind fun d => ((if d then some ((a0.Kids.length : Int) == 0) else some false).bind fun g => ((if g then some (a0.K == 0) else some false).bind fun h => some h))) else ((if (a0.Op == 2) then some (a0.Op == 2) else some (a0.Op == 3)).bind fun i => (if i then ((if (me a0.lC (⟨zS, zS⟩ : lC)) then some (a0.K == 0) else some false).bind fun j => some j) else ((if (a0.Op == 4) then some (me a0.lC (⟨zS, zS⟩ : lC)) else some false).bind fun k => ((if k then some (decide (a0.K ≥ 0)) else some false).bind fun a => ((if a then some (decide (a0.K ≤ (a0.Kids.length : Int))) else some false).bind fun b => ((if b then some (decide ((a0.Kids.length : Int) ≥ 1)) else some false).bind fun c => some c)))))))
def px (f1 : Formula → Option Bool) : List Formula → Nat → Option Int
 | [], _ => some (-1)
 | c :: a, i41 => ((f1 c).bind fun b => (if b then some (i41 : Int) else (px f1 a (i41 + 1))))
def vQ (a0 : List Formula) (f1 : Formula → Option Bool) : Option Int :=
 px f1 a0 0
def qf (a0 : List Formula) (f1 : Formula → Option Bool) : Option Bool :=
 ((vQ a0 f1).bind fun a => some (decide (a ≥ 0)))
def xl (rec : Formula → Option Bool) (a0 : Formula) : Option Bool :=
 ((rec a0).bind fun a => some (!a))
def yv (rec : Formula → Option Bool) (a0 : Formula) : Option Bool :=
 ((zY a0).bind fun c => ((if c then some (decide ((a0.Kids.length : Int) ≤ 8)) else some false).bind fun d => ((if d then ((qf a0.Kids (fun (x : Formula) => xl rec x)).bind fun a => some (!a)) else some false).bind fun b => some b)))
def ua : Nat → Formula → Option Bool
 | 0 => fun _ => none
 | n + 1 => yv (ua n)
def rr (a0 : Formula) : Option Bool :=
 ((zZ a0).bind fun b => ((if (decide (b.1 ≥ 1)) then some (decide (b.1 ≤ 64)) else some false).bind fun g => ((if g then some (decide (b.2 ≤ 6)) else some false).bind fun c => ((if c then ((ua mR a0).bind fun a => some a) else some false).bind fun d => some d))))
def wo (a0 : Formula) (a : Int) : Option Bool :=
 ((if (a0.Op == a) then some ((a0.Kids.length : Int) == 0) else some false).bind fun x6 => some x6)
def Bx  : Option Formula :=
 some (⟨2, 0, (⟨zS, zS⟩ : lC), []⟩ : Formula)
def B7  : Option Formula :=
 some (⟨3, 0, (⟨zS, zS⟩ : lC), []⟩ : Formula)
def tf (a0 : Int) : List Formula → (List Formula) → Option (List Formula)
 | [], a => some a
 | b :: c, a => (if (b.Op == a0) then ((oH 72 a b.Kids).bind fun d => (tf a0 c d)) else ((oH 72 a ([b])).bind fun g => (tf a0 c g)))
def CY (a0 : Int) (a : List Formula) : Option (List Formula) :=
 tf a0 a ([])
def tu (a0 : Formula) (a : Int) : Option Bool :=
 ((wo a0 a).bind fun b => some b)
def uZ (a0 : List Formula) : Option (List Formula) :=
 ((oH 72 ([]) a0).bind fun a => some a)
def nT (n : Int) (f3 : (Formula × Formula) → Option Int) : Nat → (List Formula) → Int → Option (List Formula)
 | 0, _, _ => none
 | g + 1, b, a => ((if (decide (a > n)) then ((nG b a).bind fun j => ((nG b (wi0 .i64 (a - 1))).bind fun k => ((f3 (j, k)).bind fun h => some (decide (h < 0))))) else some false).bind fun i => (if i then ((nG b (wi0 .i64 (a - 1))).bind fun d => ((nG b a).bind fun c => ((nG b a).bind fun l => ((nG (b.set (Int.toNat a) d) (wi0 .i64 (a - 1))).bind fun m => (nT n f3 g ((b.set (Int.toNat a) d).set (Int.toNat (wi0 .i64 (a - 1))) (⟨c.Op, c.K, c.lC, c.Kids⟩ : Formula)) (wi0 .i64 (a - 1))))))) else some b))
def nI (a2 g : Int) (f3 : (Formula × Formula) → Option Int) : Nat → (List Formula) → Int → Option (List Formula)
 | 0, _, _ => none
 | d + 1, b, a => (if (decide (a < a2)) then ((nT g f3 mR b a).bind fun c => (nI a2 g f3 d c (wi0 .i64 (a + 1)))) else some b)
def pe (a0 : List Formula) (a a2 : Int) (f3 : (Formula × Formula) → Option Int) : Option (List Formula) :=
 nI a2 a f3 mR a0 (wi0 .i64 (a + 1))
def oq (a3 a2 g : Int) : Nat → (List Formula) → Int → Option (List Formula)
 | 0, _, _ => none
 | h + 1, b, a => (if (decide (a < a3)) then ((nG b (wi0 .i64 (a2 + a))).bind fun d => ((nG b (wi0 .i64 (g + a))).bind fun c => ((nG b (wi0 .i64 (g + a))).bind fun i => ((nG (b.set (Int.toNat (wi0 .i64 (g + a))) d) (wi0 .i64 (a2 + a))).bind fun j => (oq a3 a2 g h ((b.set (Int.toNat (wi0 .i64 (g + a))) d).set (Int.toNat (wi0 .i64 (a2 + a))) (⟨c.Op, c.K, c.lC, c.Kids⟩ : Formula)) (wi0 .i64 (a + 1))))))) else some b)
def pb (a0 : List Formula) (a a2 a3 : Int) (f4 : (Formula × Formula) → Option Int) : Option (List Formula) :=
 oq a3 a2 a mR a0 0
def oF (a2 : Int) (f4 : (Formula × Formula) → Option Int) : Nat → (List Formula) → Int → Int → Option (List Formula)
 | 0, _, _, _ => none
 | n185 + 1, c, a, b => (if (a != b) then (if (decide (a > b)) then ((pb c (wi0 .i64 (a2 - a)) a2 b f4).bind fun d => (oF a2 f4 n185 d (wi0 .i64 (a - b)) b)) else ((pb c (wi0 .i64 (a2 - a)) (wi0 .i64 ((wi0 .i64 (a2 + b)) - a)) a f4).bind fun g => (oF a2 f4 n185 g a (wi0 .i64 (b - a))))) else ((pb c (wi0 .i64 (a2 - a)) a2 a f4).bind fun h => some h))
def oQ (a0 : List Formula) (a a2 a3 : Int) (f4 : (Formula × Formula) → Option Int) : Option (List Formula) :=
 oF a2 f4 mR a0 (wi0 .i64 (a2 - a)) (wi0 .i64 (a3 - a2))
def ox (g : Int) : Nat → (List Formula) → Int → Option (List Formula)
 | 0, _, _ => none
 | h + 1, b, a => (if (decide (a < (wi0 .i64 (g - 1)))) then ((nG b (wi0 .i64 (a + 1))).bind fun d => ((nG b a).bind fun c => ((nG b a).bind fun i => ((nG (b.set (Int.toNat a) d) (wi0 .i64 (a + 1))).bind fun j => (ox g h ((b.set (Int.toNat a) d).set (Int.toNat (wi0 .i64 (a + 1))) (⟨c.Op, c.K, c.lC, c.Kids⟩ : Formula)) (wi0 .i64 (a + 1))))))) else some b)
def nB (a0 : List Formula) (i : Int) (f4 : (Formula × Formula) → Option Int) : Nat → Int → Int → Option (List Formula)
 | 0, _, _ => none
 | n325 + 1, a, b => (if (decide (a < b)) then ((nG a0 (wi0 .i64 (Int.fdiv (IntKind.u64.wrap (wi0 .i64 (a + b))) (2 ^ min (Int.toNat 1) (IntKind.bits .u64))))).bind fun g => ((nG a0 i).bind fun h => ((f4 (g, h)).bind fun d => (if (decide (d < 0)) then (nB a0 i f4 n325 (wi0 .i64 ((wi0 .i64 (Int.fdiv (IntKind.u64.wrap (wi0 .i64 (a + b))) (2 ^ min (Int.toNat 1) (IntKind.bits .u64)))) + 1)) b) else (nB a0 i f4 n325 a (wi0 .i64 (Int.fdiv (IntKind.u64.wrap (wi0 .i64 (a + b))) (2 ^ min (Int.toNat 1) (IntKind.bits .u64))))))))) else ((ox a mR a0 i).bind fun c => some c))
def ow (d : Int) : Nat → (List Formula) → Int → Option (List Formula)
 | 0, _, _ => none
 | h + 1, b, a => (if (decide (a > d)) then ((nG b (wi0 .i64 (a - 1))).bind fun g => ((nG b a).bind fun c => ((nG b a).bind fun i => ((nG (b.set (Int.toNat a) g) (wi0 .i64 (a - 1))).bind fun j => (ow d h ((b.set (Int.toNat a) g).set (Int.toNat (wi0 .i64 (a - 1))) (⟨c.Op, c.K, c.lC, c.Kids⟩ : Formula)) (wi0 .i64 (a - 1))))))) else some b)
def nC (a0 : List Formula) (a2 : Int) (f4 : (Formula × Formula) → Option Int) : Nat → Int → Int → Option (List Formula)
 | 0, _, _ => none
 | c + 1, a, b => (if (decide (a < b)) then ((nG a0 a2).bind fun h => ((nG a0 (wi0 .i64 (Int.fdiv (IntKind.u64.wrap (wi0 .i64 (a + b))) (2 ^ min (Int.toNat 1) (IntKind.bits .u64))))).bind fun i => ((f4 (h, i)).bind fun g => (if (!(decide (g < 0))) then (nC a0 a2 f4 c (wi0 .i64 ((wi0 .i64 (Int.fdiv (IntKind.u64.wrap (wi0 .i64 (a + b))) (2 ^ min (Int.toNat 1) (IntKind.bits .u64)))) + 1)) b) else (nC a0 a2 f4 c a (wi0 .i64 (Int.fdiv (IntKind.u64.wrap (wi0 .i64 (a + b))) (2 ^ min (Int.toNat 1) (IntKind.bits .u64))))))))) else ((ow a mR a0 a2).bind fun d => some d))
def nn (a0 : List Formula) (c a3 a2 : Int) (f4 : (Formula × Formula) → Option Int) (rec : (List Formula) → Int → Int → Int → ((Formula × Formula) → Option Int) → Option (List Formula)) : Nat → Int → Int → Option (List Formula)
 | 0, _, _ => none
 | h + 1, a, b => (if (decide (a < b)) then ((nG a0 (wi0 .i64 ((wi0 .i64 ((wi0 .i64 ((wi0 .i64 (Int.fdiv (IntKind.u64.wrap (wi0 .i64 (c + a3))) (2 ^ min (Int.toNat 1) (IntKind.bits .u64)))) + a2)) - 1)) - (wi0 .i64 (Int.fdiv (IntKind.u64.wrap (wi0 .i64 (a + b))) (2 ^ min (Int.toNat 1) (IntKind.bits .u64))))))).bind fun m => ((nG a0 (wi0 .i64 (Int.fdiv (IntKind.u64.wrap (wi0 .i64 (a + b))) (2 ^ min (Int.toNat 1) (IntKind.bits .u64))))).bind fun n => ((f4 (m, n)).bind fun i => (if (!(decide (i < 0))) then (nn a0 c a3 a2 f4 rec h (wi0 .i64 ((wi0 .i64 (Int.fdiv (IntKind.u64.wrap (wi0 .i64 (a + b))) (2 ^ min (Int.toNat 1) (IntKind.bits .u64)))) + 1)) b) else (nn a0 c a3 a2 f4 rec h a (wi0 .i64 (Int.fdiv (IntKind.u64.wrap (wi0 .i64 (a + b))) (2 ^ min (Int.toNat 1) (IntKind.bits .u64))))))))) else ((((if (decide (a < a2)) then some (decide (a2 < (wi0 .i64 ((wi0 .i64 ((wi0 .i64 (Int.fdiv (IntKind.u64.wrap (wi0 .i64 (c + a3))) (2 ^ min (Int.toNat 1) (IntKind.bits .u64)))) + a2)) - a)))) else some false).bind fun r => (if r then ((oQ a0 a a2 (wi0 .i64 ((wi0 .i64 ((wi0 .i64 (Int.fdiv (IntKind.u64.wrap (wi0 .i64 (c + a3))) (2 ^ min (Int.toNat 1) (IntKind.bits .u64)))) + a2)) - a)) f4).bind fun l => some l) else some a0)) : Option (List Formula)).bind fun d => ((((if (decide (c < a)) then some (decide (a < (wi0 .i64 (Int.fdiv (IntKind.u64.wrap (wi0 .i64 (c + a3))) (2 ^ min (Int.toNat 1) (IntKind.bits .u64)))))) else some false).bind fun q => (if q then ((rec d c a (wi0 .i64 (Int.fdiv (IntKind.u64.wrap (wi0 .i64 (c + a3))) (2 ^ min (Int.toNat 1) (IntKind.bits .u64)))) f4).bind fun k => some k) else some d)) : Option (List Formula)).bind fun g => ((if (decide ((wi0 .i64 (Int.fdiv (IntKind.u64.wrap (wi0 .i64 (c + a3))) (2 ^ min (Int.toNat 1) (IntKind.bits .u64)))) < (wi0 .i64 ((wi0 .i64 ((wi0 .i64 (Int.fdiv (IntKind.u64.wrap (wi0 .i64 (c + a3))) (2 ^ min (Int.toNat 1) (IntKind.bits .u64)))) + a2)) - a)))) then some (decide ((wi0 .i64 ((wi0 .i64 ((wi0 .i64 (Int.fdiv (IntKind.u64.wrap (wi0 .i64 (c + a3))) (2 ^ min (Int.toNat 1) (IntKind.bits .u64)))) + a2)) - a)) < a3)) else some false).bind fun o => (if o then ((rec g (wi0 .i64 (Int.fdiv (IntKind.u64.wrap (wi0 .i64 (c + a3))) (2 ^ min (Int.toNat 1) (IntKind.bits .u64)))) (wi0 .i64 ((wi0 .i64 ((wi0 .i64 (Int.fdiv (IntKind.u64.wrap (wi0 .i64 (c + a3))) (2 ^ min (Int.toNat 1) (IntKind.bits .u64)))) + a2)) - a)) a3 f4).bind fun j => some j) else some g)))))
def ry (rec : (List Formula) → Int → Int → Int → ((Formula × Formula) → Option Int) → Option (List Formula)) (a0 : List Formula) (a a2 a3 : Int) (f4 : (Formula × Formula) → Option Int) : Option (List Formula) :=
 (if ((wi0 .i64 (a2 - a)) == 1) then nB a0 a f4 mR a2 a3 else (if ((wi0 .i64 (a3 - a2)) == 1) then nC a0 a2 f4 mR a a2 else (((if (decide (a2 > (wi0 .i64 (Int.fdiv (IntKind.u64.wrap (wi0 .i64 (a + a3))) (2 ^ min (Int.toNat 1) (IntKind.bits .u64)))))) then some ((wi0 .i64 ((wi0 .i64 ((wi0 .i64 (Int.fdiv (IntKind.u64.wrap (wi0 .i64 (a + a3))) (2 ^ min (Int.toNat 1) (IntKind.bits .u64)))) + a2)) - a3)), (wi0 .i64 (Int.fdiv (IntKind.u64.wrap (wi0 .i64 (a + a3))) (2 ^ min (Int.toNat 1) (IntKind.bits .u64))))) else some (a, a2)) : Option (Int × Int)).bind fun (b, c) => nn a0 a a3 a2 f4 rec mR b c)))
def nK : Nat → (List Formula) → Int → Int → Int → ((Formula × Formula) → Option Int) → Option (List Formula)
 | 0 => fun _ _ _ _ _ => none
 | n + 1 => ry (nK n)
def oC (i b : Int) (f2 : (Formula × Formula) → Option Int) : Nat → (List Formula) → Int → Int → Option ((List Formula) × Int)
 | 0, _, _, _ => none
 | g + 1, d, c, a => (if (decide (a ≤ i)) then ((nK mR d c (wi0 .i64 (c + b)) a f2).bind fun h => (oC i b f2 g h a (wi0 .i64 (a + (wi0 .i64 (2 * b)))))) else some (d, c))
def od (j : Int) (f2 : (Formula × Formula) → Option Int) : Nat → (List Formula) → Int → Option (List Formula)
 | 0, _, _ => none
 | h + 1, c, a => (if (decide (a < j)) then ((oC j a f2 mR c 0 (wi0 .i64 (2 * a))).bind fun (d, b) => (((if (decide ((wi0 .i64 (b + a)) < j)) then ((nK mR d b (wi0 .i64 (b + a)) j f2).bind fun i => some i) else some d) : Option (List Formula)).bind fun g => (od j f2 h g (wi0 .i64 (a * 2))))) else some c)
def oe (i : Int) (f2 : (Formula × Formula) → Option Int) : Nat → (List Formula) → Int → Int → Option (List Formula)
 | 0, _, _, _ => none
 | n123 + 1, c, h, a => (if (decide (a ≤ i)) then ((pe c h a f2).bind fun d => (oe i f2 n123 d a (wi0 .i64 (a + 20)))) else ((pe c h i f2).bind fun g => ((od i f2 mR g 20).bind fun b => some b)))
def tT (a0 : List Formula) (a : Int) (f2 : (Formula × Formula) → Option Int) : Option (List Formula) :=
 oe a f2 mR a0 0 20
def qY (a0 : List Formula) (f1 : (Formula × Formula) → Option Int) : Option (List Formula) :=
 ((tT a0 (a0.length : Int) f1).bind fun a => some a)
def tg (rec : (List Int) → Formula → Option (List Int)) : List Formula → (List Int) → Option (List Int)
 | [], a => some a
 | d :: b, a => ((rec a d).bind fun c => (tg rec b c))
def yy (rec : (List Int) → Formula → Option (List Int)) (b : List Int) (a : Formula) : Option (List Int) :=
 ((qi b a.Op).bind fun h => (if (a.Op == 1) then ((sI h.2 a.lC).bind fun g => some g.2) else (((if (a.Op == 4) then ((qi h.2 a.K).bind fun c => some c.2) else some h.2) : Option (List Int)).bind fun d => ((qi d (a.Kids.length : Int)).bind fun i => tg rec a.Kids i.2))))
def sf : Nat → (List Int) → Formula → Option (List Int)
 | 0 => fun _ _ => none
 | n + 1 => yy (sf n)
def zk (a : List Int) (b : Formula) : Option (Bool × (List Int)) :=
 ((rr b).bind fun c => (if (!c) then some (false, a) else ((sf mR a b).bind fun d => some (true, d))))
def vV (a0 : Formula) : Option (List Int) :=
 ((zk ([]) a0).bind fun b => ((wI b.2).bind fun a => some a))
def vT (a0 d : Formula) : Option Int :=
 ((vV a0).bind fun a => ((vV d).bind fun b => ((zo a b).bind fun c => some c)))
def yc (a0 : List Formula) : Option (List Formula) :=
 ((uZ a0).bind fun b => ((qY b (fun (x : (Formula × Formula)) => vT x.1 x.2)).bind fun a => some a))
def oN (b : Int) (f1 : (Formula × Formula) → Option Bool) : Nat → (List Formula) → Int → Int → Option ((List Formula) × Int)
 | 0, _, _, _ => none
 | h + 1, a, c, d => (if (decide (d < ((a.length - (Int.toNat b) : Nat) : Int))) then ((((nG (a.drop (Int.toNat b)) d).bind fun k => ((nG (a.drop (Int.toNat b)) (wi0 .i64 (d - 1))).bind fun l => ((f1 (k, l)).bind fun i => (if (!i) then ((nG (a.drop (Int.toNat b)) d).bind fun m => ((nG a c).bind fun n => some ((a.set (Int.toNat c) m), (wi0 .i64 (c + 1))))) else some (a, c))))) : Option ((List Formula) × Int)).bind fun (g, j) => (oN b f1 h g j (wi0 .i64 (d + 1)))) else some (a, c))
def oL (a0 : List Formula) (f1 : (Formula × Formula) → Option Bool) : Nat → Int → Option (List Formula)
 | 0, _ => none
 | d + 1, a => (if (decide (a < (a0.length : Int))) then ((nG a0 a).bind fun h => ((nG a0 (wi0 .i64 (a - 1))).bind fun i => ((f1 (h, i)).bind fun g => (if g then ((rU (decide (0 ≤ a) && decide (a ≤ (a0.length : Int)))).bind fun _ => ((oN a f1 mR a0 a 1).bind fun (c, b) => ((rU (decide (0 ≤ b) && decide (b ≤ (c.length : Int)))).bind fun _ => ((rU (decide (0 ≤ b) && decide (b ≤ ((pV c (Int.toNat b) (⟨0, 0, (⟨zS, zS⟩ : lC), []⟩ : Formula)).length : Int)))).bind fun _ => some ((pV c (Int.toNat b) (⟨0, 0, (⟨zS, zS⟩ : lC), []⟩ : Formula)).take (Int.toNat b)))))) else (oL a0 f1 d (wi0 .i64 (a + 1))))))) else some a0)
def rW (a0 : List Formula) (f1 : (Formula × Formula) → Option Bool) : Option (List Formula) :=
 (if (decide ((a0.length : Int) < 2)) then some a0 else oL a0 f1 mR 1)
def nA (g : List Formula) (f2 : (Formula × Formula) → Option Bool) : List Formula → Nat → Option Bool
 | [], _ => some true
 | d :: c, i95 => ((nG g (i95 : Int)).bind fun b => ((f2 (d, b)).bind fun a => (if (!a) then some false else (nA g f2 c (i95 + 1)))))
def oM (a0 a : List Formula) (f2 : (Formula × Formula) → Option Bool) : Option Bool :=
 (if ((a0.length : Int) != (a.length : Int)) then some false else nA a f2 a0 0)
def za (rec : Formula → Formula → Option Bool) (a0 a : Formula) : Option Bool :=
 ((if (a0.Op == a.Op) then some (a0.K == a.K) else some false).bind fun c => ((if c then some (me a0.lC a.lC) else some false).bind fun d => ((if d then ((oM a0.Kids a.Kids (fun (x : (Formula × Formula)) => rec x.1 x.2)).bind fun b => some b) else some false).bind fun g => some g)))
def qm : Nat → Formula → Formula → Option Bool
 | 0 => fun _ _ => none
 | n + 1 => za (qm n)
def qo (a0 : nk) (c : Int) (a2 : List Formula) : Option (Formula × nk) :=
 ((CY c a2).bind fun i => ((qf i (fun (x : Formula) => tu x (wi0 .i64 (5 - c)))).bind fun d => (if d then some ((⟨(wi0 .i64 (5 - c)), 0, (⟨zS, zS⟩ : lC), []⟩ : Formula), a0) else ((yc i).bind fun g => ((rW g (fun (x : (Formula × Formula)) => qm mR x.1 x.2)).bind fun a => (((if (decide ((a.length : Int) > 64)) then some (⟨12⟩ : nk) else some a0) : Option nk).bind fun b => (if ((a.length : Int) == 1) then ((nG a 0).bind fun h => some (h, b)) else some ((⟨c, 0, (⟨zS, zS⟩ : lC), a⟩ : Formula), b))))))))
def oJ (a0 : nk) : List Formula → Int → (List Formula) → Option (Formula × nk)
 | [], b, a => (if (decide (b ≤ 0)) then (Bx.bind fun l => some (l, a0)) else (if (decide (b > (a.length : Int))) then (B7.bind fun m => some (m, a0)) else (if (b == (a.length : Int)) then ((qo a0 2 a).bind fun g => some (g.1, g.2)) else (if (b == 1) then ((qo a0 3 a).bind fun h => some (h.1, h.2)) else ((yc a).bind fun n => some ((⟨4, b, (⟨zS, zS⟩ : lC), n⟩ : Formula), a0))))))
 | d :: c, b, a => ((wo d 2).bind fun j => (if j then (oJ a0 c (wi0 .i64 (b - 1)) a) else ((wo d 3).bind fun k => (if (!k) then ((oH 72 a ([d])).bind fun i => (oJ a0 c b i)) else (oJ a0 c b a)))))
def tw (a0 : nk) (a : Int) (a2 : List Formula) : Option (Formula × nk) :=
 oJ a0 a2 a ([])
def pS (rec : nk → Formula → Option (Formula × nk)) (k : Formula) : List Formula → (List Formula) → nk → Option (Formula × nk)
 | [], a, b => (if (k.Op == 4) then ((tw b k.K a).bind fun d => some (d.1, d.2)) else ((qo b k.Op a).bind fun g => some (g.1, g.2)))
 | j :: h, a, b => ((rec b j).bind fun c => ((oH 72 a ([c.1])).bind fun i => (pS rec k h i c.2)))
def uT (rec : nk → Formula → Option (Formula × nk)) (a0 : nk) (a : Formula) : Option (Formula × nk) :=
 (if (a.Op == 1) then some (a, a0) else pS rec a a.Kids ([]) a0)
def pt : Nat → nk → Formula → Option (Formula × nk)
 | 0 => fun _ _ => none
 | n + 1 => uT (pt n)
def AD (a0 : Formula) : Option (Formula × Int) :=
 ((rr a0).bind fun d => (if (!d) then some ((⟨0, 0, (⟨zS, zS⟩ : lC), []⟩ : Formula), 11) else ((pt mR (⟨0⟩ : nk) a0).bind fun a => ((if (a.2.e != 0) then some true else ((rr a.1).bind fun b => some (!b))).bind fun c => (if c then some ((⟨0, 0, (⟨zS, zS⟩ : lC), []⟩ : Formula), 12) else some (a.1, 0))))))
def AM (a0 b : Formula) : Option (Formula × Int) :=
 ((AD (⟨2, 0, (⟨zS, zS⟩ : lC), [a0, b]⟩ : Formula)).bind fun a => some (a.1, a.2))
def wm  : List Formula → Int → Int → Int → lC → (List Formula) → Option (Int × Int × Int × lC × (List Formula))
 | [], c, d, g, h, b => some (c, d, g, h, b)
 | j :: i, c, d, g, h, b => (if (c != 0) then some (c, d, g, h, b) else ((AM (⟨d, g, h, b⟩ : Formula) j).bind fun a => (wm i a.2 ((a.1).Op) ((a.1).K) ((a.1).lC) ((a.1).Kids))))
def yS (a0 : List Formula) : Option (Formula × Int) :=
 ((nG a0 0).bind fun x6 => ((AD x6).bind fun a => ((rU (decide (0 ≤ 1) && decide (1 ≤ (a0.length : Int)))).bind fun _ => ((wm (a0.drop (Int.toNat 1)) a.2 ((a.1).Op) ((a.1).K) ((a.1).lC) ((a.1).Kids)).bind fun (b, d, g, h, c) => (if (b != 0) then some ((⟨0, 0, (⟨zS, zS⟩ : lC), []⟩ : Formula), b) else some ((⟨d, g, h, c⟩ : Formula), 0))))))
def xa  : List nx → (List Formula) → Option (Formula × Int)
 | [], a => ((yS a).bind fun b => some (b.1, b.2))
 | g :: c, a => ((oH 72 a ([g.lM])).bind fun d => (xa c d))
def yz (a0 : lH) (c : lD) : Option (Formula × Int) :=
 ((Bq a0 c).bind fun a => (if (!a.2) then some ((⟨0, 0, (⟨zS, zS⟩ : lC), []⟩ : Formula), 42) else ((AP a0 c).bind fun b => xa b ([(a.1).lM]))))
def rN (rec : Formula → (lC → Option Bool) → Option Bool) (f1 : lC → Option Bool) (a0 : Formula) : List Formula → Int → Option Bool
 | [], a => (if (a0.Op == 2) then some (a == (a0.Kids.length : Int)) else (if (a0.Op == 3) then some (decide (a > 0)) else some (decide (a ≥ a0.K))))
 | d :: b, a => ((rec d f1).bind fun c => (if c then (rN rec f1 a0 b (wi0 .i64 (a + 1))) else (rN rec f1 a0 b a)))
def yr (rec : Formula → (lC → Option Bool) → Option Bool) (a0 : Formula) (f1 : lC → Option Bool) : Option Bool :=
 (if (a0.Op == 1) then ((f1 a0.lC).bind fun a => some a) else rN rec f1 a0 a0.Kids 0)
def si : Nat → Formula → (lC → Option Bool) → Option Bool
 | 0 => fun _ _ => none
 | n + 1 => yr (si n)
def uQ (a0 : Formula) (f1 : lC → Option Bool) : Option Bool :=
 ((rr a0).bind fun c => ((if c then ((si mR a0 f1).bind fun a => some a) else some false).bind fun b => some b))
def vG (a0 : lC) (g : List (lC × (List (ByteArray × Bool)))) (a : List lD) (d : List (lC × (List lD))) (b : List (ByteArray × (List lD))) (c : List mc) (h : Int) (c1 : ByteArray) : Option Bool :=
 ((uN g a d b c h a0 c1).bind fun i => some i)
def tR (a0 : lH) (c : ((List (lC × (List (ByteArray × Bool)))) × (List lD) × (List (lC × (List lD))) × (List (ByteArray × (List lD))) × (List mc) × Int × ByteArray)) : List mI → (List lD) → Option (List lD)
 | [], a => ((pj a).bind fun i => some i)
 | d :: b, a => ((yz a0 d.Signed.lD).bind fun r417 => ((if (r417.2 == 0) then ((uQ r417.1 (fun (x : lC) => vG x c.1 c.2.1 c.2.2.1 c.2.2.2.1 c.2.2.2.2.1 c.2.2.2.2.2.1 c.2.2.2.2.2.2)).bind fun h => some h) else some false).bind fun j => (if j then ((oH 136 a ([d.Signed.lD])).bind fun g => (tR a0 c b g)) else (tR a0 c b a))))
def sC (a0 : lH) (a : List lD) (a2 : ByteArray) : Option (List lD) :=
 ((By a a2).bind fun b => tR a0 b a0.lZ ([]))
def E7 (a0 j : lH) : Nat → (List lD) → (List lD) → Int → Option ((List lD) × (List lD) × Int)
 | 0, _, _, _ => none
 | h + 1, a, b, g => ((sC a0 b j.Name).bind fun c => ((sC j a a0.Name).bind fun d => ((if ((c.length : Int) == (a.length : Int)) then some ((d.length : Int) == (b.length : Int)) else some false).bind fun i => (if i then some (a, b, g) else (E7 a0 j h c d (wi0 .i64 (g + 1)))))))
def N4 (a0 a : lH) : Option ((List lD) × (List lD) × Int) :=
 E7 a0 a mR ([]) ([]) 0
def uM (rec : (List Formula) → Option Int) : List Formula → Int → Option Int
 | [], b => some b
 | a :: d, b => ((rec a.Kids).bind fun c => (uM rec d (wi0 .i64 (b + (wi0 .i64 ((wi0 .i64 (1 + (wi0 .i64 (Int.tdiv (wi0 .i64 ((a.lC.lK.size : Int) + (a.lC.lN.size : Int))) 16)))) + c))))))
def zr (rec : (List Formula) → Option Int) (a0 : List Formula) : Option Int :=
 uM rec a0 0
def rT : Nat → (List Formula) → Option Int
 | 0 => fun _ => none
 | n + 1 => zr (rT n)
def uP  : List nx → Int → Option Int
 | [], b => some b
 | a :: c, b => ((rT mR ([a.lM])).bind fun d => ((sP a.nj).bind fun g => (uP c (wi0 .i64 (b + (wi0 .i64 ((wi0 .i64 ((wi0 .i64 ((a.lC.lK.size : Int) + (a.lC.lN.size : Int))) + (wi0 .i64 (20 * d)))) + g)))))))
def uG (a0 : lH) : List mI → Int → Option Int
 | [], a => ((uP a0.mq a).bind fun c => some c)
 | b :: d, a => ((((AW ([]) ([b.Signed])).bind fun i => some (i, ([b.lM]))) : Option (Int × (List Formula))).bind fun (j, g) => ((rT mR g).bind fun h => (uG a0 d (wi0 .i64 (a + (wi0 .i64 (j + (wi0 .i64 (20 * h)))))))))
def AV (a0 : lH) : Option Int :=
 uG a0 a0.lZ (a0.Name.size : Int)
def ta (g : ByteArray) : List mc → (List lC) → Option (List lC)
 | [], a => some a
 | d :: b, a => (if (np d.mX g) then ((oH 32 a ([d.lC])).bind fun c => (ta g b c)) else (ta g b a))
def yE (a0 : List mc) (a : ByteArray) : Option (List lC) :=
 ta a a0 ([])
def uO (rec : Formula → Option Int) : List Formula → Int → Option Int
 | [], a => some a
 | d :: c, a => ((rec d).bind fun b => (uO rec c (wi0 .i64 (a + b))))
def zB (rec : Formula → Option Int) (a0 : Formula) : Option Int :=
 uO rec a0.Kids 1
def ui : Nat → Formula → Option Int
 | 0 => fun _ => none
 | n + 1 => zB (ui n)
def vw (rec : Formula → Option Int) : List Formula → Int → Option Int
 | [], a => some (wi0 .i64 (a + 1))
 | d :: c, a => ((rec d).bind fun b => (vw rec c (if b > a then b else a)))
def Ar (rec : Formula → Option Int) (a0 : Formula) : Option Int :=
 vw rec a0.Kids 0
def vl : Nat → Formula → Option Int
 | 0 => fun _ => none
 | n + 1 => Ar (vl n)
def vI (rec : Formula → Option Bool) : List Formula → Option Bool
 | [] => some true
 | c :: a => ((rec c).bind fun b => (if (!b) then some false else (vI rec a)))
def Am (rec : Formula → Option Bool) (a0 : Formula) : Option Bool :=
 (if (a0.Op == 1) then ((vR a0.lC).bind fun m => ((if m then some ((a0.Kids.length : Int) == 0) else some false).bind fun g => ((if g then some (a0.K == 0) else some false).bind fun h => some h))) else ((if (decide (a0.Op < 1)) then some true else some (decide (a0.Op > 4))).bind fun i => ((if i then some true else some (!(me a0.lC (⟨zS, zS⟩ : lC)))).bind fun j => ((if j then some true else some (decide ((a0.Kids.length : Int) > 8))).bind fun k => (if k then some false else ((if (decide (a0.Op < 4)) then some (a0.K != 0) else some false).bind fun l => ((if l then some true else ((if (a0.Op == 4) then ((if (decide ((a0.Kids.length : Int) < 1)) then some true else some (decide (a0.K < 0))).bind fun c => ((if c then some true else some (decide (a0.K > (a0.Kids.length : Int)))).bind fun d => some d)) else some false).bind fun b => some b)).bind fun a => (if a then some false else vI rec a0.Kids))))))))
def vr : Nat → Formula → Option Bool
 | 0 => fun _ => none
 | n + 1 => Am (vr n)
def AJ (a0 : Formula) : Option Bool :=
 ((ui mR a0).bind fun g => ((if (decide (g ≤ 64)) then ((vl mR a0).bind fun b => some (decide (b ≤ 6))) else some false).bind fun c => ((if c then ((vr mR a0).bind fun a => some a) else some false).bind fun d => some d)))
def zT (c : lC) : List lC → Option Bool
 | [] => some false
 | b :: a => (if (me b c) then some true else (zT c a))
def Cp (a0 : List lC) (a : lC) : Option Bool :=
 zT a a0
def ub (rec : Formula → (List lC) → Option Bool) (d : List lC) (a0 : Formula) : List Formula → Int → Option Bool
 | [], a => (if (a0.Op == 2) then some (a == (a0.Kids.length : Int)) else (if (a0.Op == 3) then some (decide (a > 0)) else some (decide (a ≥ a0.K))))
 | g :: b, a => ((rec g d).bind fun c => (if c then (ub rec d a0 b (wi0 .i64 (a + 1))) else (ub rec d a0 b a)))
def Aq (rec : Formula → (List lC) → Option Bool) (a0 : Formula) (a : List lC) : Option Bool :=
 (if (a0.Op == 1) then ((Cp a a0.lC).bind fun b => some b) else ub rec a a0 a0.Kids 0)
def vn : Nat → Formula → (List lC) → Option Bool
 | 0 => fun _ _ => none
 | n + 1 => Aq (vn n)
def L4 (a0 c : lH) : Option ((List lD) × (List (lC × (List (ByteArray × Bool)))) × (List lD) × (List (lC × (List lD))) × (List (ByteArray × (List lD))) × (List mc) × Int × ByteArray) :=
 ((N4 a0 c).bind fun b => ((yq b.2.1).bind fun a => some (b.2.1, a.1, a.2.1, a.2.2.1, a.2.2.2.1, a.2.2.2.2.1, a.2.2.2.2.2, c.Name)))
def I1 (a0 : lC) (g : List (lC × (List (ByteArray × Bool)))) (a : List lD) (d : List (lC × (List lD))) (b : List (ByteArray × (List lD))) (c : List mc) (i : Int) (h : ByteArray) (j : List mI) (k : List nx) : Option Bool :=
 ((uN g a d b c i a0 h).bind fun l => some l)
def Kf (a0 b : lH) (a2 : Formula) : Option Bool :=
 ((L4 a0 b).bind fun a => ((uQ a2 (fun (x : lC) => I1 x a.2.1 a.2.2.1 a.2.2.2.1 a.2.2.2.2.1 a.2.2.2.2.2.1 a.2.2.2.2.2.2.1 a.2.2.2.2.2.2.2 b.lZ b.mq)).bind fun c => some c))
def tz (a0 : List nx) (f1 : nx → Option Bool) : Option Bool :=
 ((rc a0 f1).bind fun a => some (decide (a ≥ 0)))
def zg (a0 : nx) : Option Bool :=
 some (decide ((a0.nj.length : Int) > 32))
def BC (a0 : lH) : Option Bool :=
 ((if (decide ((a0.lZ.length : Int) > 256)) then some true else some (decide ((a0.mq.length : Int) > 8))).bind fun x8 => ((if x8 then some true else ((tz a0.mq (fun (x : nx) => zg x)).bind fun a => some a)).bind fun b => some b))
def sw (d : List lD) : List lD → Nat → Option Bool
 | [], _ => some true
 | c :: b, i90 => ((nG d (i90 : Int)).bind fun a => (if (!(mO c a)) then some false else (sw d b (i90 + 1))))
def rj (a0 a : List lD) : Option Bool :=
 (if ((a0.length : Int) != (a.length : Int)) then some false else sw a a0 0)
def xY (a0 : List lD) : Option Bool :=
 ((pj a0).bind fun b => ((rj b a0).bind fun a => some a))
def uD  : List mI → (List lD) → Option Bool
 | [], a => ((xY a).bind fun h => some h)
 | b :: c, a => ((if ((b.Signed.Tag.length : Int) != 8) then some true else ((rr b.lM).bind fun g => some (!g))).bind fun i => (if i then some false else ((oH 136 a ([b.Signed.lD])).bind fun d => (uD c d))))
def CX (a0 : lH) : Option Bool :=
 uD a0.lZ ([])
def vL (a0 : List nx) : List nx → Nat → Option Bool
 | [], _ => some true
 | a :: c, b => ((qT a.lC).bind fun d => ((if (!d) then some true else ((rr a.lM).bind fun i => some (!i))).bind fun j => ((if j then some true else ((xY a.nj).bind fun h => some (!h))).bind fun k => ((if k then some true else ((if (decide ((b : Int) > 0)) then ((nG a0 (wi0 .i64 ((b : Int) - 1))).bind fun n => ((pQ n.lC a.lC).bind fun g => some (decide (g ≥ 0)))) else some false).bind fun m => some m)).bind fun l => (if l then some false else (vL a0 c (b + 1)))))))
def DE (a0 : List nx) : Option Bool :=
 vL a0 a0 0
def rD (a0 : List mI) (f1 : mI → Option Bool) : Option Bool :=
 ((qX a0 f1).bind fun a => some (decide (a ≥ 0)))
def xP (a0 : mI) (c : ByteArray) (a : List mI) (b : List nx) : Option Bool :=
 ((yz (⟨c, a, b⟩ : lH) a0.Signed.lD).bind fun d => some (d.2 != 0))
def zP (a0 : lH) : Option Bool :=
 ((rD a0.lZ (fun (x : mI) => xP x a0.Name a0.lZ a0.mq)).bind fun a => some (!a))
def yK (a0 : lH) : Option Int :=
 ((rM a0.Name).bind fun i => (if (!i) then some 30 else ((BC a0).bind fun a => (if a then some 12 else ((CX a0).bind fun b => ((if (!b) then some true else ((DE a0.mq).bind fun d => some (!d))).bind fun g => ((if g then some true else ((zP a0).bind fun c => some (!c))).bind fun h => (if h then some 11 else some 0))))))))
def zy (a0 : lH) (g : ByteArray) (a2 : Int) : Option (ng × Int) :=
 ((yK a0).bind fun c => (((if (c != 0) then some c else ((rM g).bind fun b => (if (!b) then some 30 else ((if (decide (a2 < 0)) then some true else some (decide (a2 > 256))).bind fun d => (if d then some 2 else some c))))) : Option Int).bind fun a => (if (a != 0) then some ((⟨(⟨zS, [], []⟩ : lH), zS, 0, [], [], [], []⟩ : ng), a) else some ((⟨a0, g, a2, [], [], [], []⟩ : ng), 0))))
def zV (a0 : lD) (d : ByteArray) (b : List mI) (c : List nx) (j : ByteArray) (k : Int) (g a : List lD) (h i : List lC) : Option Bool :=
 ((rZ a a0).bind fun l => some l)
def AH (a0 : ng) : Option (List lD) :=
 ((sC a0.lH a0.lV a0.mU).bind fun a => ((pE a (fun (x : lD) => zV x a0.lH.Name a0.lH.lZ a0.lH.mq a0.mU a0.Room a0.lV a0.Shown a0.ml a0.ms)).bind fun b => some b))
def wx (c : lD) : List mI → Option (Signed × Bool)
 | [] => some ((⟨(⟨0, (⟨zS, zS⟩ : lC), zS, (⟨zS, zS⟩ : lC), (⟨zS, zS⟩ : lC), zS⟩ : lD), []⟩ : Signed), false)
 | a :: b => (if (mO a.Signed.lD c) then some (a.Signed, true) else (wx c b))
def AE (a0 : lH) (a : lD) : Option (Signed × Bool) :=
 wx a a0.lZ
def CG (a0 : ng) : Option ((List (lC × (List (ByteArray × Bool)))) × (List lD) × (List (lC × (List lD))) × (List (ByteArray × (List lD))) × (List mc) × Int × ByteArray × ByteArray × Int) :=
 ((yq a0.lV).bind fun a => some (a.1, a.2.1, a.2.2.1, a.2.2.2.1, a.2.2.2.2.1, a.2.2.2.2.2, a0.lH.Name, a0.mU, a0.Room))
def vt (a0 : lC) (h : List (lC × (List (ByteArray × Bool)))) (a : List lD) (d : List (lC × (List lD))) (b : List (ByteArray × (List lD))) (c : List mc) (m : Int) (j : ByteArray) (g : List mI) (i : List nx) (k : ByteArray) (r : Int) (l q : List lD) (n o : List lC) : Option Bool :=
 ((uN h a d b c m a0 k).bind fun s => some s)
def BB (a0 : ng) (g : lD) : Option Bool :=
 ((yz a0.lH g).bind fun b => ((if (b.2 == 0) then ((CG a0).bind fun a => ((uQ b.1 (fun (x : lC) => vt x a.1 a.2.1 a.2.2.1 a.2.2.2.1 a.2.2.2.2.1 a.2.2.2.2.2.1 a.2.2.2.2.2.2.1 a0.lH.lZ a0.lH.mq a.2.2.2.2.2.2.2.1 a.2.2.2.2.2.2.2.2 a0.lV a0.Shown a0.ml a0.ms)).bind fun c => some c)) else some false).bind fun d => some d))
def uf (a0 : ng) : List lD → Option (Int ⊕ Unit)
 | [] => some (Sum.inr ())
 | c :: a => ((BB a0 c).bind fun b => (if (!b) then some (Sum.inl 44) else (uf a0 a)))
def uh (a0 : ng) (g : List lD) : List lD → Option Int
 | [] => ((uf a0 g).bind fun s => match s with | .inl b => some b | .inr _ => some 0)
 | d :: a => ((AE a0.lH d).bind fun c => (if (!c.2) then some 42 else (uh a0 g a)))
def B0 (a0 : ng) (a : List lD) : Option Int :=
 (if (decide ((a.length : Int) > 8)) then some 12 else uh a0 a a)
def wT (a0 : List Int) : Option (List Int) :=
 ((oH 1 ([]) a0).bind fun a => some a)
def uY (b : Int) : Option (List lD) :=
 (if (decide (b < 0)) then none else (((if (decide ((wi0 .i64 (b - (wi0 .i64 (0 - 0)))) > 0)) then ((Gp 136 (⟨0, (⟨zS, zS⟩ : lC), zS, (⟨zS, zS⟩ : lC), (⟨zS, zS⟩ : lC), zS⟩ : lD) (wi0 .i64 (b - (wi0 .i64 (0 - 0))))).bind fun a => ((rU (decide (0 ≤ 0) && decide (0 ≤ (a.length : Int)))).bind fun _ => some (a.take (Int.toNat 0)))) else some ([])) : Option (List lD)).bind fun c => some c))
def qI  : List (List lD) → (List lD) → Option (List lD)
 | [], a => some a
 | d :: b, a => ((oH 136 a d).bind fun c => (qI b c))
def qN (a0 : List (List lD)) : List (List lD) → Int → Option (List lD)
 | [], a => ((uY a).bind fun g => ((qI a0 g).bind fun b => some b))
 | c :: d, a => (if (decide ((wi0 .i64 (a + (c.length : Int))) < 0)) then none else (qN a0 d (wi0 .i64 (a + (c.length : Int)))))
def tO (a0 : List (List lD)) : Option (List lD) :=
 qN a0 a0 0
def sr (a0 : ng) (q : List lD) : List lD → (List Signed) → Option ((List Signed) × Int × ng)
 | [], a => ((tO ([a0.Shown, q])).bind fun h => ((pj h).bind fun i => some (a, 0, (⟨(⟨a0.lH.Name, a0.lH.lZ, a0.lH.mq⟩ : lH), a0.mU, a0.Room, a0.lV, i, a0.ml, a0.ms⟩ : ng))))
 | l :: k, a => ((((AE a0.lH l).bind fun b => some (((b.1).lD), ((b.1).Tag), b.2, (⟨0, (⟨zS, zS⟩ : lC), zS, (⟨zS, zS⟩ : lC), (⟨zS, zS⟩ : lC), zS⟩ : lD), ([]))) : Option (lD × (List Int) × Bool × lD × (List Int))).bind fun (j, c, n, o, m) => ((wT c).bind fun g => ((oH 160 a ([(⟨j, g⟩ : Signed)])).bind fun d => (sr a0 q k d))))
def yx (a0 : ng) (a : List lD) : Option ((List Signed) × Int × ng) :=
 ((B0 a0 a).bind fun b => (if (b != 0) then some ([], b, a0) else ((pj a).bind fun c => sr a0 a c ([]))))
def uS  : List lC → Int → Option Int
 | [], a => some a
 | b :: c, a => (uS c (wi0 .i64 (a + (wi0 .i64 ((wi0 .i64 (5 + (b.lK.size : Int))) + (b.lN.size : Int))))))
def AQ (a0 : ng) : Option Int :=
 ((AV a0.lH).bind fun c => ((sP a0.lV).bind fun d => ((sP a0.Shown).bind fun g => ((oH 32 ([]) a0.ml).bind fun a => ((oH 32 a a0.ms).bind fun b => uS b (wi0 .i64 ((wi0 .i64 ((wi0 .i64 (c + (a0.mU.size : Int))) + d)) + g)))))))
def uy (a0 : List lC) : Option (List lC) :=
 ((oH 32 ([]) a0).bind fun a => some a)
def qS (f1 : lC → Option Bool) : List lC → Nat → Option Int
 | [], _ => some (-1)
 | c :: a, i35 => ((f1 c).bind fun b => (if b then some (i35 : Int) else (qS f1 a (i35 + 1))))
def wX (a0 : List lC) (f1 : lC → Option Bool) : Option Int :=
 qS f1 a0 0
def pI (f1 : lC → Option Bool) : Nat → (List lC) → Int → Int → Option (List lC)
 | 0, _, _, _ => none
 | n321 + 1, b, a, c => (if (decide (c < (b.length : Int))) then ((((nG b c).bind fun d => ((f1 d).bind fun h => (if (!h) then ((nG b a).bind fun j => some ((b.set (Int.toNat a) d), (wi0 .i64 (a + 1)))) else some (b, a)))) : Option ((List lC) × Int)).bind fun (g, i) => (pI f1 n321 g i (wi0 .i64 (c + 1)))) else ((rU (decide (0 ≤ a) && decide (a ≤ (b.length : Int)))).bind fun _ => ((rU (decide (0 ≤ a) && decide (a ≤ ((pV b (Int.toNat a) (⟨zS, zS⟩ : lC)).length : Int)))).bind fun _ => some ((pV b (Int.toNat a) (⟨zS, zS⟩ : lC)).take (Int.toNat a)))))
def rE (a0 : List lC) (f1 : lC → Option Bool) : Option (List lC) :=
 ((wX a0 f1).bind fun a => (if (a == (-1)) then some a0 else pI f1 mR a0 a (wi0 .i64 (a + 1))))
def AS (a0 : lC) : Option Bool :=
 ((qT a0).bind fun a => some (!a))
def ql (b : Int) : Nat → (List lC) → Int → Int → Option ((List lC) × Int)
 | 0, _, _, _ => none
 | h + 1, a, c, d => (if (decide (d < ((a.length - (Int.toNat b) : Nat) : Int))) then ((((nG (a.drop (Int.toNat b)) d).bind fun j => ((nG (a.drop (Int.toNat b)) (wi0 .i64 (d - 1))).bind fun k => (if (!(me j k)) then ((nG (a.drop (Int.toNat b)) d).bind fun l => ((nG a c).bind fun m => some ((a.set (Int.toNat c) l), (wi0 .i64 (c + 1))))) else some (a, c)))) : Option ((List lC) × Int)).bind fun (g, i) => (ql b h g i (wi0 .i64 (d + 1)))) else some (a, c))
def qu (a0 : List lC) : Nat → Int → Option (List lC)
 | 0, _ => none
 | d + 1, a => (if (decide (a < (a0.length : Int))) then ((nG a0 a).bind fun g => ((nG a0 (wi0 .i64 (a - 1))).bind fun h => (if (me g h) then ((rU (decide (0 ≤ a) && decide (a ≤ (a0.length : Int)))).bind fun _ => ((ql a mR a0 a 1).bind fun (c, b) => ((rU (decide (0 ≤ b) && decide (b ≤ (c.length : Int)))).bind fun _ => ((rU (decide (0 ≤ b) && decide (b ≤ ((pV c (Int.toNat b) (⟨zS, zS⟩ : lC)).length : Int)))).bind fun _ => some ((pV c (Int.toNat b) (⟨zS, zS⟩ : lC)).take (Int.toNat b)))))) else (qu a0 d (wi0 .i64 (a + 1)))))) else some a0)
def vK (a0 : List lC) : Option (List lC) :=
 (if (decide ((a0.length : Int) < 2)) then some a0 else qu a0 mR 1)
def pG (a0 : List lC) : Option (List lC) :=
 ((uy a0).bind fun d => ((rE d (fun (x : lC) => AS x)).bind fun a => ((AT (fun (x : (lC × lC)) => pQ x.1 x.2) a).bind fun b => ((vK b).bind fun c => some c))))
def ra (d : List lC) : List lC → Nat → Option Bool
 | [], _ => some true
 | c :: b, i90 => ((nG d (i90 : Int)).bind fun a => (if (!(me c a)) then some false else (ra d b (i90 + 1))))
def ri (a0 a : List lC) : Option Bool :=
 (if ((a0.length : Int) != (a.length : Int)) then some false else ra a a0 0)
def Ct (a0 : ng) : Option Bool :=
 ((pj a0.lV).bind fun a => ((rj a a0.lV).bind fun b => ((if b then ((pj a0.Shown).bind fun i => ((rj i a0.Shown).bind fun j => some j)) else some false).bind fun k => ((if k then ((pG a0.ml).bind fun g => ((ri g a0.ml).bind fun h => some h)) else some false).bind fun l => ((if l then ((pG a0.ms).bind fun c => ((ri c a0.ms).bind fun d => some d)) else some false).bind fun m => some m)))))
def sQ (a0 : List lD) (f1 : lD → Option Bool) : Option Bool :=
 ((sb a0 f1).bind fun a => some (decide (a ≥ 0)))
def xC (a0 : lD) (c : ByteArray) (a : List mI) (b : List nx) (j : ByteArray) (k : Int) (d i : List lD) (g h : List lC) : Option Bool :=
 ((AE (⟨c, a, b⟩ : lH) a0).bind fun l => some (!l.2))
def BE (a0 : ng) : Option Bool :=
 ((yK a0.lH).bind fun a => ((if (a != 0) then some true else ((rM a0.mU).bind fun d => some (!d))).bind fun g => ((if g then some true else some (decide (a0.Room < 0))).bind fun h => ((if h then some true else some (decide (a0.Room > 256))).bind fun i => ((if i then some true else ((Ct a0).bind fun c => some (!c))).bind fun j => (if j then some false else ((sQ a0.Shown (fun (x : lD) => xC x a0.lH.Name a0.lH.lZ a0.lH.mq a0.mU a0.Room a0.lV a0.Shown a0.ml a0.ms)).bind fun b => some (!b))))))))
def nr (g : List Signed) (f2 : (Signed × Signed) → Option Bool) : List Signed → Nat → Option Bool
 | [], _ => some true
 | d :: c, i95 => ((nG g (i95 : Int)).bind fun b => ((f2 (d, b)).bind fun a => (if (!a) then some false else (nr g f2 c (i95 + 1)))))
def oh (a0 a : List Signed) (f2 : (Signed × Signed) → Option Bool) : Option Bool :=
 (if ((a0.length : Int) != (a.length : Int)) then some false else nr a f2 a0 0)
def wB (a0 c : Signed) : Option Bool :=
 ((if (mO a0.lD c.lD) then ((CZ a0.Tag c.Tag).bind fun a => some a) else some false).bind fun b => some b)
def Dv (a0 a : DR) : Option Bool :=
 ((if (a0.Kind == a.Kind) then some (a0.xU == a.xU) else some false).bind fun d => ((if d then some (a0.E == a.E) else some false).bind fun g => ((if g then some (np a0.Name a.Name) else some false).bind fun h => ((if h then ((ri a0.tW a.tW).bind fun c => some c) else some false).bind fun i => ((if i then ((oh a0.tV a.tV (fun (x : (Signed × Signed)) => wB x.1 x.2)).bind fun b => some b) else some false).bind fun j => some j)))))
def se (d : List lC) : List lC → Nat → Option Bool
 | [], _ => some true
 | c :: b, i90 => ((nG d (i90 : Int)).bind fun a => (if (!(me c a)) then some false else (se d b (i90 + 1))))
def BF (a0 a : List lC) : Option Bool :=
 (if ((a0.length : Int) != (a.length : Int)) then some false else se a a0 0)
def zb (d : List lD) (a : List (lC × Bool)) (b : List (ByteArray × Bool)) (c : List (lD × Bool)) (h : lD) : Option Bool :=
 ((if (zn me a h.Head false) then some true else some (zn np b h.Head.lN false)).bind fun g => some g)
def qK (d : lD) (b : List (ByteArray × Bool)) (a : List (lD × Bool)) : List lC → (List (lC × Bool)) → Option ((List (lC × Bool)) × (List (ByteArray × Bool)) × (List (lD × Bool)))
 | [], c => (if (d.Kind == 3) then some (c, (pu np b d.mQ true), (pu mO a d true)) else some (c, b, (pu mO a d true)))
 | h :: g, c => (qK d b a g (pu me c h true))
def wh (d : List lD) (b : List (lC × Bool)) (c : List (ByteArray × Bool)) (a : List (lD × Bool)) (g : lD) : Option ((List (lC × Bool)) × (List (ByteArray × Bool)) × (List (lD × Bool))) :=
 ((zu g).bind fun h => ((rU (decide (0 ≤ 1) && decide (1 ≤ (h.length : Int)))).bind fun _ => qK g c a (h.drop (Int.toNat 1)) b))
def pO (b : List lD) : List lD → (List (lC × Bool)) → (List (ByteArray × Bool)) → (List (lD × Bool)) → Option ((List (lC × Bool)) × (List (ByteArray × Bool)) × (List (lD × Bool)))
 | [], c, d, a => some (c, d, a)
 | h :: i, c, d, a => ((if (!(zn mO a h false)) then ((zb b c d a h).bind fun j => some j) else some false).bind fun k => (if k then ((wh b c d a h).bind fun g => (pO b i g.1 g.2.1 g.2.2)) else (pO b i c d a)))
def qO (a : List lD) : Nat → Int → (List (lC × Bool)) → (List (ByteArray × Bool)) → (List (lD × Bool)) → Option ((List (lC × Bool)) × (List (ByteArray × Bool)) × (List (lD × Bool)))
 | 0, _, _, _, _ => none
 | j + 1, k, c, d, b => (if (decide (k < (b.length : Int))) then ((pO a a c d b).bind fun (g, h, i) => (qO a j (b.length : Int) g h i)) else some (c, d, b))
def pM (c : List lD) (b : List (ByteArray × Bool)) (a : List (lD × Bool)) : List lC → (List (lC × Bool)) → Option (Int × (List (lC × Bool)) × (List (ByteArray × Bool)) × (List (lD × Bool)))
 | [], i => ((qO c mR (-1) i b a).bind fun (g, h, d) => some ((wi0 .i64 ((d.length : Int) - (a.length : Int))), g, h, d))
 | k :: j, i => (pM c b a j (pu me i k true))
def tX (d : List lD) (b : List (lC × Bool)) (c : List (ByteArray × Bool)) (a : List (lD × Bool)) (g : List lC) : Option (Int × (List (lC × Bool)) × (List (ByteArray × Bool)) × (List (lD × Bool))) :=
 ((pG g).bind fun h => pM d c a h b)
def Cw (a0 : List lD) (c : List lC) : Option ((List lD) × (List (lC × Bool)) × (List (ByteArray × Bool)) × (List (lD × Bool))) :=
 ((pj a0).bind fun b => ((tX b ([]) ([]) ([]) c).bind fun a => some (b, a.2.1, a.2.2.1, a.2.2.2)))
def tq (a0 : lD) (d : List lD) (b : List (lC × Bool)) (c : List (ByteArray × Bool)) (a : List (lD × Bool)) : Option Bool :=
 some (!(zn mO a a0 false))
def vg (c : List lD) (b : List (lC × Bool)) (d : List (ByteArray × Bool)) (a : List (lD × Bool)) : Option (List lD) :=
 ((sn c).bind fun h => ((pE h (fun (x : lD) => tq x c b d a)).bind fun g => some g))
def xB (a0 : nx) (a : lC → Option Bool) : Option Bool :=
 ((uQ a0.lM a).bind fun b => some b)
def xA (a0 : ng) : Option (List nx) :=
 ((CG a0).bind fun a => ((qH a0.lH.mq).bind fun b => ((pd b (fun (x : nx) => xB x (fun (x : lC) => vt x a.1 a.2.1 a.2.2.1 a.2.2.2.1 a.2.2.2.2.1 a.2.2.2.2.2.1 a.2.2.2.2.2.2.1 a0.lH.lZ a0.lH.mq a.2.2.2.2.2.2.2.1 a.2.2.2.2.2.2.2.2 a0.lV a0.Shown a0.ml a0.ms))).bind fun c => some c)))
def xD (a0 : nx) (a : lD) : Option Bool :=
 ((rZ a0.nj a).bind fun b => some (!b))
def vB (a0 : List nx) (b : lD) : Option (List nx) :=
 ((qH a0).bind fun c => ((pd c (fun (x : nx) => xD x b)).bind fun a => some a))
def uH  : List nx → (List lD) → Option (List lD)
 | [], a => some a
 | d :: b, a => ((oH 136 a d.nj).bind fun c => (uH b c))
def te (c : List nx) : List mI → (List lD) → Option (List lD)
 | [], a => ((uH c a).bind fun h => ((pj h).bind fun j => some j))
 | d :: b, a => ((vB c d.Signed.lD).bind fun i => (if ((i.length : Int) == 0) then ((oH 136 a ([d.Signed.lD])).bind fun g => (te c b g)) else (te c b a)))
def vO (a0 : ng) : Option (List lD) :=
 ((xA a0).bind fun a => te a a0.lH.lZ ([]))
def pq (a0 : ng) : Option (List lD) :=
 ((vO a0).bind fun c => ((Cw c a0.ml).bind fun a => ((vg a.1 a.2.1 a.2.2.1 a.2.2.2).bind fun b => some b)))
def th (rec : Formula → Option (List lC)) : List Formula → (List lC) → Option (List lC)
 | [], a => some a
 | g :: b, a => ((rec g).bind fun d => ((oH 32 a d).bind fun c => (th rec b c)))
def yn (rec : Formula → Option (List lC)) (a0 : Formula) : Option (List lC) :=
 (if (a0.Op == 1) then some [a0.lC] else th rec a0.Kids ([]))
def tJ : Nat → Formula → Option (List lC)
 | 0 => fun _ => none
 | n + 1 => yn (tJ n)
def vE (a0 : Formula) : Option (List lC) :=
 ((tJ mR a0).bind fun b => ((pG b).bind fun a => some a))
def oW (m : List nx) (a2 : lD) (a0 : ng) : List nx → (List lC) → Option (List lC)
 | [], a => ((vB m a2).bind fun h => ((if (decide ((h.length : Int) > 0)) then some true else ((BB a0 a2).bind fun j => some j)).bind fun l => (if l then some a else ((yz a0.lH a2).bind fun b => (if (b.2 != 0) then some [] else ((vE b.1).bind fun i => some i))))))
 | k :: c, a => ((vE k.lM).bind fun g => ((oH 32 a g).bind fun d => (oW m a2 a0 c d)))
def uL (a0 : ng) (b : List nx) (a2 : lD) : Option (List lC) :=
 ((vB b a2).bind fun a => oW b a2 a0 a ([]))
def ol (a0 : ng) (d : List nx) : List lD → (List lC) → Option (List lC)
 | [], a => ((pG a).bind fun h => some h)
 | i :: b, a => ((uL a0 d i).bind fun g => ((oH 32 a g).bind fun c => (ol a0 d b c)))
def pP (a0 : ng) : Option (List lC) :=
 ((xA a0).bind fun a => ((pq a0).bind fun b => ol a0 a b ([])))
def vh (b : Int) : Option (List lC) :=
 (if (decide (b < 0)) then none else (((if (decide ((wi0 .i64 (b - (wi0 .i64 (0 - 0)))) > 0)) then ((Gp 32 (⟨zS, zS⟩ : lC) (wi0 .i64 (b - (wi0 .i64 (0 - 0))))).bind fun a => ((rU (decide (0 ≤ 0) && decide (0 ≤ (a.length : Int)))).bind fun _ => some (a.take (Int.toNat 0)))) else some ([])) : Option (List lC)).bind fun c => some c))
def qJ  : List (List lC) → (List lC) → Option (List lC)
 | [], a => some a
 | d :: b, a => ((oH 32 a d).bind fun c => (qJ b c))
def qM (a0 : List (List lC)) : List (List lC) → Int → Option (List lC)
 | [], a => ((vh a).bind fun g => ((qJ a0 g).bind fun b => some b))
 | c :: d, a => (if (decide ((wi0 .i64 (a + (c.length : Int))) < 0)) then none else (qM a0 d (wi0 .i64 (a + (c.length : Int)))))
def rY (a0 : List (List lC)) : Option (List lC) :=
 qM a0 a0 0
def sF (c : lC) : List lC → Nat → Option Int
 | [], _ => some (-1)
 | b :: a, i46 => (if (me c b) then some (i46 : Int) else (sF c a (i46 + 1)))
def yW (a0 : List lC) (a : lC) : Option Int :=
 sF a a0 0
def xF (a0 : List lC) (a : lC) : Option Bool :=
 ((yW a0 a).bind fun b => some (decide (b ≥ 0)))
def Ds (a0 : List lC) (a : lC) : Option Bool :=
 ((xF a0 a).bind fun b => some b)
def wE (a0 : lC) (d : ByteArray) (b : List mI) (c : List nx) (j : ByteArray) (k : Int) (g i : List lD) (h a : List lC) : Option Bool :=
 ((Ds a a0).bind fun l => some l)
def qU (a0 : ng) (g : List lC) : Option (List lC) :=
 ((pP a0).bind fun b => ((rY ([b, g])).bind fun c => ((pG c).bind fun d => ((rE d (fun (x : lC) => wE x a0.lH.Name a0.lH.lZ a0.lH.mq a0.mU a0.Room a0.lV a0.Shown a0.ml a0.ms)).bind fun a => ((rU (decide (0 ≤ (if 16 < (a.length : Int) then 16 else (a.length : Int))) && decide ((if 16 < (a.length : Int) then 16 else (a.length : Int)) ≤ (a.length : Int)))).bind fun _ => some (a.take (Int.toNat (if 16 < (a.length : Int) then 16 else (a.length : Int)))))))))
def xR (a0 : lD) (a : List lD) : Option Bool :=
 ((rZ a a0).bind fun b => some (!b))
def qZ (a0 : ng) : Option (List lD) :=
 ((pq a0).bind fun b => ((AH a0).bind fun c => ((pE c (fun (x : lD) => xR x b)).bind fun a => ((rU (decide (0 ≤ (if 8 < (a.length : Int) then 8 else (a.length : Int))) && decide ((if 8 < (a.length : Int) then 8 else (a.length : Int)) ≤ (a.length : Int)))).bind fun _ => some (a.take (Int.toNat (if 8 < (a.length : Int) then 8 else (a.length : Int))))))))
def vP (a0 : ng) (c : List lC) : Option Bool :=
 ((qU a0 c).bind fun a => ((qZ a0).bind fun b => some ((wi0 .i64 ((a.length : Int) + (b.length : Int))) == 0)))
def xz (a0 : ng) (b : List lC) : Option ng :=
 ((rY ([a0.ml, b])).bind fun c => ((pG c).bind fun a => some (⟨a0.lH, a0.mU, a0.Room, a0.lV, a0.Shown, a, a0.ms⟩ : ng)))
def pT (a0 : ng) (h : List lC) : Option (DR × Int × ng) :=
 ((qU a0 h).bind fun g => ((qZ a0).bind fun b => ((yx (⟨(⟨a0.lH.Name, a0.lH.lZ, a0.lH.mq⟩ : lH), a0.mU, a0.Room, a0.lV, a0.Shown, a0.ml, a0.ms⟩ : ng) b).bind fun a => (if (a.2.1 != 0) then some ((⟨0, 0, 0, zS, [], []⟩ : DR), a.2.1, a.2.2) else ((rY ([(a.2.2).ms, g])).bind fun c => ((pG c).bind fun d => some ((⟨2, 0, 0, zS, g, a.1⟩ : DR), 0, (⟨(⟨((a.2.2).lH).Name, ((a.2.2).lH).lZ, ((a.2.2).lH).mq⟩ : lH), (a.2.2).mU, (a.2.2).Room, (a.2.2).lV, (a.2.2).Shown, (a.2.2).ml, d⟩ : ng))))))))
def Ak (a : List lC) : Option (DR × Int) :=
 some ((⟨0, 0, 0, zS, [], []⟩ : DR), 1)
def yF  : Option Bool :=
 ((((HG 1 0 8).bind fun h => some ((⟨#[109, 101]⟩ : ByteArray), ([(⟨(⟨(⟨1, (⟨(⟨#[120]⟩ : ByteArray), (⟨#[121]⟩ : ByteArray)⟩ : lC), (⟨#[109, 101]⟩ : ByteArray), (⟨zS, zS⟩ : lC), (⟨zS, zS⟩ : lC), zS⟩ : lD), h⟩ : Signed), (⟨1, 0, (⟨(⟨#[120]⟩ : ByteArray), (⟨#[122]⟩ : ByteArray)⟩ : lC), []⟩ : Formula)⟩ : mI)]), ([]), zS, ([]), ([]))) : Option (ByteArray × (List mI) × (List nx) × ByteArray × (List mI) × (List nx))).bind fun (v, q, r, P, M, O) => ((zy (⟨v, q, r⟩ : lH) (⟨#[121, 111, 117]⟩ : ByteArray) 9).bind fun b => ((vP b.1 ([])).bind fun s => ((xz (⟨(⟨((b.1).lH).Name, ((b.1).lH).lZ, ((b.1).lH).mq⟩ : lH), (b.1).mU, (b.1).Room, (b.1).lV, (b.1).Shown, (b.1).ml, (b.1).ms⟩ : ng) ([(⟨(⟨#[120]⟩ : ByteArray), (⟨#[121]⟩ : ByteArray)⟩ : lC)])).bind fun d => ((pP d).bind fun g => ((pT d ([])).bind fun a => ((qZ (⟨(a.2.2).lH, (a.2.2).mU, (a.2.2).Room, [(⟨1, (⟨(⟨#[120]⟩ : ByteArray), (⟨#[122]⟩ : ByteArray)⟩ : lC), (⟨#[121, 111, 117]⟩ : ByteArray), (⟨zS, zS⟩ : lC), (⟨zS, zS⟩ : lC), zS⟩ : lD)], (a.2.2).Shown, (a.2.2).ml, (a.2.2).ms⟩ : ng)).bind fun t => ((pT (⟨(⟨((a.2.2).lH).Name, ((a.2.2).lH).lZ, ((a.2.2).lH).mq⟩ : lH), (a.2.2).mU, (a.2.2).Room, [(⟨1, (⟨(⟨#[120]⟩ : ByteArray), (⟨#[122]⟩ : ByteArray)⟩ : lC), (⟨#[121, 111, 117]⟩ : ByteArray), (⟨zS, zS⟩ : lC), (⟨zS, zS⟩ : lC), zS⟩ : lD)], (a.2.2).Shown, (a.2.2).ml, (a.2.2).ms⟩ : ng) ([])).bind fun c => ((Ak ([])).bind fun u => ((if (b.2 == 0) then some s else some false).bind fun w => ((if w then some ((g.length : Int) == 1) else some false).bind fun x => ((if x then ((nG g 0).bind fun o => some (me o (⟨(⟨#[120]⟩ : ByteArray), (⟨#[122]⟩ : ByteArray)⟩ : lC))) else some false).bind fun y => ((if y then some (a.2.1 == 0) else some false).bind fun z => ((if z then some ((((a.1).tW).length : Int) == 1) else some false).bind fun A => ((if A then some ((((a.1).tV).length : Int) == 0) else some false).bind fun D => ((if D then some ((t.length : Int) == 1) else some false).bind fun F => ((if F then some (c.2.1 == 0) else some false).bind fun G => ((if G then some ((((c.1).tV).length : Int) == 1) else some false).bind fun I => ((if I then some ((((c.1).tW).length : Int) == 0) else some false).bind fun J => ((if J then some (u.2 == 1) else some false).bind fun L => ((if L then ((vP c.2.2 ([])).bind fun k => some k) else some false).bind fun l => ((if l then ((vO c.2.2).bind fun j => some ((j.length : Int) == 1)) else some false).bind fun m => ((if m then ((pq c.2.2).bind fun i => some ((i.length : Int) == 1)) else some false).bind fun n => some n)))))))))))))))))))))))
def CU (a0 : ng) : Option (List lC) :=
 ((zO a0.lV).bind fun a => ((yE a a0.mU).bind fun b => some b))
def sd (d : List lC) : List nx → (List nx) → Option (List nx)
 | [], a => some a
 | b :: c, a => ((AJ b.lM).bind fun h => ((if (!h) then some true else ((vn mR b.lM d).bind fun i => some (!i))).bind fun j => (if j then ((oH 128 a ([b])).bind fun g => (sd d c g)) else (sd d c a))))
def zN (a0 : ng) : Option (List nx) :=
 ((CU a0).bind fun a => sd a a0.lH.mq ([]))
def rb (b : mI) : List nx → Bool → Option Bool
 | [], a => some a
 | g :: c, a => ((if a then some true else ((Az g.nj b.Signed.lD).bind fun d => some d)).bind fun h => (rb b c h))
def ph (q : List nx) (a0 : ng) (a2 : List Bool) (A : List lC) : List mI → Int → (List mI) → Option Bool
 | [], b, c => ((pT a0 A).bind fun a => ((pT (⟨(⟨a0.lH.Name, c, a0.lH.mq⟩ : lH), a0.mU, a0.Room, a0.lV, a0.Shown, a0.ml, a0.ms⟩ : ng) A).bind fun d => ((if (a.2.1 == d.2.1) then ((Dv (⟨(a.1).Kind, (a.1).xU, (a.1).E, (a.1).Name, (a.1).tW, (a.1).tV⟩ : DR) d.1).bind fun o => some o) else some false).bind fun x => ((if x then ((BF ((a.2.2).ms) ((d.2.2).ms)).bind fun n => some n) else some false).bind fun y => ((if y then ((Bv ((a.2.2).Shown) ((d.2.2).Shown)).bind fun m => some m) else some false).bind fun z => some z)))))
 | g :: h, b, c => ((rb g q false).bind fun r => ((((if r then ((Az a0.Shown g.Signed.lD).bind fun l => some (!l)) else some false).bind fun u => (if u then ((if (decide ((wi0 .i64 (b + 1)) ≤ (a2.length : Int))) then ((nG a2 (wi0 .i64 ((wi0 .i64 (b + 1)) - 1))).bind fun w => some w) else some false).bind fun v => (if v then ((ph q a0 a2 A h (wi0 .i64 (b + 1)) c).bind fun j => some (Sum.inl j)) else some (Sum.inr (wi0 .i64 (b + 1))))) else some (Sum.inr b))) : Option (Bool ⊕ Int)).bind fun s => match s with | .inl k => some k | .inr t => ((oH 232 c ([g])).bind fun i => (ph q a0 a2 A h t i))))
def wS (a0 : ng) (i : List lC) (a2 : List Bool) : Option Bool :=
 (yF.bind fun b => (if (!b) then some false else ((AQ a0).bind fun c => ((if (decide (c > 3500)) then some true else ((BE a0).bind fun a => some (!a))).bind fun g => ((if g then some true else some (decide ((i.length : Int) > 20))).bind fun h => (if h then some true else ((zN a0).bind fun d => ph d a0 a2 i a0.lH.lZ 0 ([]))))))))
end
end Go.Proofs.YtklbhegeiijbjaaGreat
