/- a part of a proof of StuckWaits -/
import Derived.Test.YtmlncblocfcmiaaGreatRtVw
import Derived.Shelf.SlSortCmp.NoneTotal
import Derived.Shelf.SortM.Plain
import Derived.Shelf.SortM.SortNone
import Derived.Shelf.SlIter.Sorted
import Derived.Shelf.SlIter.Nil
import Derived.Test.YtmlncblocfcmiaaGreatProg
import Derived.KernelRfl
set_option linter.all false
namespace Go.Proofs.YtmlncblocfcmiaaGreat
open Go.RowKit
section
variable {dd : Bool}
def qr {α : Type} (R : iX α) : aY → List Value → α → Prop := fun μ vs x => ∃ ys, vs = [.agg ys.toArray] ∧ R μ ys x
def mO {α β : Type} (R : iX α) (S : iX β) : aY → List Value → α × β → Prop := fun μ vs x => ∃ ys zs, vs = [.agg ys.toArray, .agg zs.toArray] ∧ R μ ys x.1 ∧ S μ zs x.2
theorem qr.mk {α : Type} {R : iX α} {k : Nat} {μ μ' : aY} {ys : List Value} {x : α} (hD : Deep R k) (h : R μ ys x) (hs : aW μ μ') : qr R μ' [.agg ys.toArray] x := ⟨ys, rfl, hD.mono _ _ _ _ hs h⟩
theorem mO.mk {α β : Type} {R : iX α} {S : iX β} {k m : Nat} {μ μ' : aY} {ys zs : List Value} {x : α} {y : β} (hD : Deep R k) (hE : Deep S m) (h : R μ ys x) (h2 : S μ zs y) (hs : aW μ μ') : mO R S μ' [.agg ys.toArray, .agg zs.toArray] (x, y) :=
  ⟨ys, zs, rfl, hD.mono _ _ _ _ hs h, hE.mono _ _ _ _ hs h2⟩
def nY {α β : Type} (P : Program) (fv : Value) (μ : aY) (Ra : aY → List Value → α → Prop) (rv : β → Value) (pm : α → Option β) : Prop :=
  ∃ f first caps, fv = .func (.func f) first caps ∧ (∀ args w, (callFunc f args).run P w = .ok (.enter f args) w) ∧ ∀ W x vs r, aW μ (hp W) → Ra (hp W) vs x → pm x = some r → bW false P f (first.toList ++ (vs ++ caps.toList)) W (rv r)
theorem nY.form {α β : Type} {P : Program} {fv : Value} {μ : aY} {Ra : aY → List Value → α → Prop} {rv : β → Value} {pm : α → Option β} (h : nY P fv μ Ra rv pm) : ∃ f a b, fv = .func f a b := let ⟨f, a, b, h, _⟩ := h; ⟨_, a, b, h⟩
end
section
variable {P : Program} {W : World} {E : Nat → Value} {d : Option Nat} {ty : TypeId} {pos : String} {af : Array Edge} {g : Option (Nat × Bool)} {F : Nat → Prop} {w : World} {μ μ0 : aY} {L : List (Nat × Obj)}
theorem nY.mono {α β : Type} {fv : Value} {Ra : aY → List Value → α → Prop} {rv : β → Value} {pm : α → Option β} (h : nY P fv μ Ra rv pm) (hs : aW μ μ0) : nY P fv μ0 Ra rv pm := by
  obtain ⟨f, first, caps, h1, h2, h3⟩ := h
  exact ⟨f, first, caps, h1, h2, fun W x vs r h => h3 W x vs r (hs.trans h)⟩
theorem oT {α β : Type} {K : Value → World → Prop} {fv : Value} {Ra : aY → List Value → α → Prop} {rv : β → Value} {pm : α → Option β} {fo : Operand} {ax : Array Operand} {ats : Array TypeId} (x : α) {vs : List Value} {r : β} (hST : ST false F w W μ L) (hc : nY P fv μ0 Ra rv pm) (hs : aW μ0 μ)
    (hR : Ra (hp W) vs x) (hf : aR E fo = fv) (ha : ax.map (aR E) ++ (#[] : Array Value) = vs.toArray) (hm : pm x = some r) (h : ∀ W', ST false F w W' μ L → K (rv r) W') : fY P E ⟨d, .call ⟨.value fo, ax, ats⟩, ty, pos, af, g⟩ W K := by
  obtain ⟨f, first, caps, rfl, h2, h3⟩ := hc
  have ha' : ax.map (aR E) = vs.toArray := by simpa using ha
  refine .inr (.inr ⟨f, (first.toList ++ (vs ++ caps.toList)).toArray, ?_, Calls.mono (h3 W x vs r (hs.trans hST.sub_hp) hR hm) (fun _ _ ⟨h4, h5⟩ => ⟨_, h4, h _ (hST.call0 h5)⟩)⟩)
  show (do let d ← resolve (aR E) ⟨.value fo, ax, ats⟩ ty; invoke d.target d.args : Sem Next).run P W = _
  simp only [resolve, hf, Deferred.ofValue, Sem.run_bind, Sem.run_pure, Result.andThen_ok, invoke, ha', h2]
  congr 2
  simp
end
section
variable {dd : Bool}
variable {β : Type} {Rl : iX β} {k : Nat} {μ : aY} {v : Value} {l : List β} {e : TypeId} {B : List (Nat × Obj)}
variable {F : Nat → Prop} {w W : World} {L : List (Nat × Obj)}
variable {P : Program} {E : Nat → Value} {d : Option Nat} {ty : TypeId} {pos : String} {af : Array Edge} {g : Option (Nat × Bool)}
theorem yn {α : Type} {enc : α → List Value} (hk : ∀ x, (enc x).length = k) (hk0 : 0 < k) (hi : ∀ x y, enc x = enc y → x = y) : ∀ {l m : List α}, (l.map enc).flatten = (m.map enc).flatten → l = m
  | [], [], _ => rfl
  | [], b :: m, h => by
    have := congrArg List.length h
    simp only [List.map_nil, List.flatten_nil, List.length_nil, List.map_cons, List.flatten_cons, List.length_append, hk] at this
    omega
  | a :: l, [], h => by
    have := congrArg List.length h
    simp only [List.map_nil, List.flatten_nil, List.length_nil, List.map_cons, List.flatten_cons, List.length_append, hk] at this
    omega
  | a :: l, b :: m, h => by
    simp only [List.map_cons, List.flatten_cons] at h
    obtain ⟨h1, h2⟩ := List.append_inj h (by rw [hk, hk])
    rw [hi _ _ h1, yn hk hk0 hi h2]
theorem Fy (x y : nN k) (h : mM x = mM y) : x = y := Subtype.ext h
theorem bE.pre {v1 : Value} {cl cl1 : List (nN k)} (hk0 : 0 < k) (h : bE e mM k v cl B) (h1 : bE e mM k v1 cl1 B) (hl : cl1.length ≤ cl.length) : cl1 = cl.take cl1.length := by
  rcases h with ⟨rfl, rfl, rfl⟩ | ⟨g', cap, cur, rfl, rfl, q1, q2, q3, q4⟩
  · simp at hl; simp [hl]
  · rcases h1 with ⟨_, _, h⟩ | ⟨g1, cap1, cur1, rfl, eR, a1, a2, a3, a4⟩
    · cases h
    · cases eR
      refine yn pc hk0 Fy ?_
      rw [← a4]
      have hle : cl1.length * k ≤ cl.length * k := Nat.mul_le_mul_right _ hl
      have : cur.toList.take (cl1.length * k) = (cur.toList.take (cl.length * k)).take (cl1.length * k) := by rw [List.take_take, Nat.min_eq_left hle]
      rw [this, q4]
      have h2 : (cl.map mM).flatten = ((cl.take cl1.length).map mM).flatten ++ ((cl.drop cl1.length).map mM).flatten := by rw [← List.flatten_append, ← List.map_append, List.take_append_drop]
      have h3 : ((cl.take cl1.length).map mM).flatten.length = cl1.length * k := by rw [iZ pc, List.length_take, Nat.min_eq_left hl]
      rw [h2, ← h3, List.take_left]
theorem iI.replicate {α β : Type} {Q : α → β → Prop} {a : α} {b : β} (h : Q a b) : ∀ n, iI Q (List.replicate n a) (List.replicate n b)
  | 0 => .nil
  | n + 1 => .cons h (iI.replicate h n)
theorem iI.clrT {α β : Type} {Q : α → β → Prop} {l : List α} {m : List β} (h : iI Q l m) {a : α} {b : β} (hq : Q a b) (i : Nat) : iI Q (gW l i a) (gW m i b) := by
  unfold gW
  rw [h.length]
  exact (h.take i).append (iI.replicate hq _)
theorem vL {t e' : TypeId} {x ih : Operand} {ik : IntKind} {i : Int} (ht : P.underlying t = some (.slice e')) (he : ∀ w, (sizeOf e').run P w = .ok k w) (hx : aR E x = v) (hi : aR E ih = .int ik i) (h : bX e Rl k μ v l B) (h0 : 0 ≤ i) (hl : i ≤ l.length) :
    ∃ v', bX e Rl k μ v' (l.take i.toNat) B ∧ ∀ W, dT P E ⟨d, .slice t x none (some ih) none, ty, pos, af, g⟩ W v' W := by
  obtain ⟨cl, h1, h2⟩ := h
  obtain ⟨v', h3, h4⟩ := tw (d := d) (ty := ty) (pos := pos) (af := af) (g := g) ht he hx hi h1 pc h0 (by rw [h2.length]; exact hl)
  exact ⟨v', ⟨_, h3, h2.take _⟩, h4⟩
theorem qw {t e' : TypeId} {x il : Operand} {ik : IntKind} {i : Int} (ht : P.underlying t = some (.slice e')) (he : ∀ w, (sizeOf e').run P w = .ok k w) (hx : aR E x = v) (hi : aR E il = .int ik i) (h : bX e Rl k μ v l B) (h0 : 0 ≤ i) (hl : i ≤ l.length) :
    ∃ u, pZ k v i.toNat u ∧ ∀ W, dT P E ⟨d, .slice t x (some il) none none, ty, pos, af, g⟩ W u W := by
  obtain ⟨cl, h1, h2⟩ := h
  exact pu ht he hx hi h1 h0 (by rw [h2.length]; exact hl)
theorem A4 {t e' : TypeId} {x : Operand} {u : Value} {i : Nat} (ht : P.underlying t = some (.slice e')) (hx : aR E x = u) (hu : pZ k v i u) (h : bX e Rl k μ v l B) : dT P E ⟨d, .call ⟨.builtin .len, #[x], #[t]⟩, ty, pos, af, g⟩ W (.int .i64 ((l.length - i : Nat) : Int)) W := by
  obtain ⟨cl, h1, h2⟩ := h
  rw [← h2.length]
  exact xt ht hx hu h1
theorem qm {t e' : TypeId} {x ix : Operand} {ik : IntKind} {i : Int} {x0 : β} {u : Value} {o : Nat} {A : List Value → Prop} (ho : ∀ {ys}, Rl μ ys x0 → A ys)
    (ht : P.underlying t = some (.slice e')) (he : ∀ w, (sizeOf e').run P w = .ok k w) (hx : aR E x = u) (hi : aR E ix = .int ik i) (h : bX e Rl k μ v l B) (hu : pZ k v o u) (h0 : 0 ≤ i) (hl : (l.drop o)[i.toNat]? = some x0) :
    ∃ p, (∃ ys, A ys ∧ At (pM B) p ys ∧ pR B k p (o + i.toNat)) ∧ ∀ W, dT P E ⟨d, .indexAddr t x ix, ty, pos, af, g⟩ W p W := by
  obtain ⟨cl, h1, h2⟩ := h
  obtain ⟨c, hc, hq⟩ := (h2.drop o).get hl
  obtain ⟨p, h3, h4⟩ := px (d := d) (ty := ty) (pos := pos) (af := af) (g := g) ht he hx hi h1 hu h0 hc
  exact ⟨p, ⟨c.1, ho hq, h3.at h1 pc (qj hc), h3⟩, h4⟩
theorem tq {K : Value → World → Prop} {z : β} {zs : List Value} {Y : List (Nat × Obj)} {t e' : TypeId} {x : Operand} {u zv : Value} {i : Nat} (hD : Deep Rl k) (hST : ST dd F w W μ (B ++ Y)) (h : bX e Rl k μ v l B) (hz0 : Rl μ zs z) (ht : P.underlying t = some (.slice e')) (hz : ∀ w, (zeroValue e').run P w = .ok zv w) (hu : pZ k v i u) (hc : zv.cells = zs.toArray) (hx : aR E x = u)
    (hK : ∀ W' R', ST dd F w W' μ (R' ++ Y) → bX e Rl k μ v (gW l i z) R' → K (.tuple #[]) W') : fY P E ⟨d, .call ⟨.builtin .clear, #[x], #[t]⟩, ty, pos, af, g⟩ W K := by
  obtain ⟨cl, h1, h2⟩ := h
  exact ra (hD.cell hz0) hST h1 pc Cu ht hz hu hc hx (fun W' R' a1 a2 => hK W' R' a1 ⟨_, a2, h2.clrT hz0 i⟩)
end
section
variable {P : Program} {W : World} {E : Nat → Value} {d : Option Nat} {ty : TypeId} {pos : String} {af : Array Edge} {g : Option (Nat × Bool)}
theorem Bs {tx tv : TypeId} {x y : Operand} {fv : Value} {s u : Array TypeId} {bb : Bool} (ht : P.underlying tx = some (.func s u bb)) (h : ∃ f a b, fv = .func f a b) (hx : aR E x = fv) (hy : aR E y = .nilFunc) :
    dT P E ⟨d, .binOp .neq tx x y tv, ty, pos, af, g⟩ W (.bool true) W := by
  obtain ⟨f, a, b, rfl⟩ := h
  show (do let r ← (do eqGuard .neq tx x y (aR E x) (aR E y); binOp .neq tx (aR E x) (aR E y)); pure (.value r) : Sem Next).run P W = _
  rw [hx, hy]
  have h0 := vd 9999 ht f a b W
  simp [eqGuard, binOp, Op.equal, show Op.maxDepth = 9999 + 1 from rfl, h0]
end
end Go.Proofs.YtmlncblocfcmiaaGreat
namespace Go.Proofs.YtmlncblocfcmiaaGreat
open Go.RowKit
theorem bS {α β : Type} {m : Option α} {f : α → Option β} {r : β} {G : Prop} (h : m.bind f = some r) (k : ∀ x, m = some x → f x = some r → G) : G :=
  let ⟨x, a, b⟩ := bind_some h
  k x a b
theorem sj {α : Type} {a b : α} (h : some a = some b) : a = b := Option.some.inj h
theorem bC {α : Type} {b : Bool} {x y r : α} {G : Prop} (h : (if b = true then x else y) = r) (k1 : b = true → x = r → G) (k2 : b = false → y = r → G) : G := by
  rcases Bb b with e | e
  · exact k1 e (Et e h)
  · exact k2 e (Ei e h)
theorem cB {a b : Bool} (h : a = b) : Value.bool a = Value.bool b := congrArg Value.bool h
theorem nb {a b : Nat} (h : Nat.ble a b = true := by exact rfl) : a ≤ b := Nat.le_of_ble_eq_true h
def Fo : Nat → Nat → List Bool
  | 0, _ => []
  | n + 1, m => (m % 2 == 1) :: Fo n (m / 2)
def bm (n m : Nat) : Array Bool := (Fo n m).toArray
section
variable {P : Program} {n : Nat} {Q : kA} {E : Nat → Value} {W : World}
theorem CI {α : Type} {co : Operand} {b : Bool} {x y : Code} {A B r : α} (hm : (if b = true then A else B) = r) (hc : aR E co = .bool b) (ht : b = true → A = r → CW P n x Q E W) (hf : b = false → B = r → CW P n y Q E W) : CW P n (.cond co x y) Q E W :=
  Bd hc (fun e => ht e (Et e hm)) (fun e => hf e (Ei e hm))
theorem CJ {σ ρ : Type} {m : Option σ} {k : σ → Option ρ} {r : ρ} {x : Code} {K : (Nat → Value) → World → Prop} (hm : m.bind k = some r) (I : σ → (Nat → Value) → World → Prop)
    (h1 : ∀ s, m = some s → CW P n x (pp (I s) Q) E W) (h2 : ∀ s E W, I s E W → k s = some r → K E W) : CW P n x (pp K Q) E W :=
  let ⟨s, a, b⟩ := bind_some hm
  BK (I s) (h1 s a) (fun E W h => h2 s E W h b)
theorem Dg {σ ρ ρ' : Type} {m : Option (ρ' ⊕ σ)} {k : ρ' ⊕ σ → Option ρ} {r : ρ} {x : Code} {K : (Nat → Value) → World → Prop} (hm : m.bind k = some r) (I : σ → (Nat → Value) → World → Prop)
    (h1 : ∀ s, m = some s → k s = some r → CW P n x (pp (fun E W => ∃ t, s = .inr t ∧ I t E W) Q) E W) (h2 : ∀ s E W, I s E W → k (.inr s) = some r → K E W) : CW P n x (pp K Q) E W :=
  let ⟨s, a, b⟩ := bind_some hm
  BK (fun E W => ∃ t, s = .inr t ∧ I t E W) (h1 s a b) (fun E W ⟨t, e, h⟩ => h2 t E W h (by subst e; exact b))
theorem LJ {σ ρ : Type} {m : Option σ} {k : σ → Option ρ} {r : ρ} {ops : Array Oper} {rest : List Oper} (hm : m.bind k = some r) (I : σ → (Nat → Value) → World → Prop) (j : Nat)
    (h2 : ∀ s E W, I s E W → k s = some r → LW P n ops Q (rest.drop j) E W) (h1 : ∀ s, m = some s → (∀ E W, I s E W → LW P n ops Q (rest.drop j) E W) → LW P n ops Q rest E W) : LW P n ops Q rest E W :=
  let ⟨s, a, b⟩ := bind_some hm
  h1 s a (fun E W h => h2 s E W h b)
theorem PJ {σ ρ : Type} {m : Option σ} {k : σ → Option ρ} {r : ρ} {ops : Array Oper} {S : Array Bool → World → Prop} {fuel : Nat} {listed : Array Bool} (hm : m.bind k = some r) (I : σ → (Nat → Value) → World → Prop) (l' : Array Bool) (f' : Nat)
    (h2 : ∀ s E W, I s E W → k s = some r → PX P n ops Q S f' l' E W) (h1 : ∀ s, m = some s → (∀ E W, I s E W → PX P n ops Q S f' l' E W) → PX P n ops Q S fuel listed E W) : PX P n ops Q S fuel listed E W :=
  let ⟨s, a, b⟩ := bind_some hm
  h1 s a (fun E W h => h2 s E W h b)
theorem cF (n : Nat) {f : FuncId} {fn : Func} {c : Code} {args : List Value} {w : World} {R : Ending → World → Prop} (hfn : P.funcs[f]? = some fn) (hb : fn.body = some c) (h : CW P n c (qu P fn R) (xU args) w)
    (hn : fn.ntmps = n := by exact rfl) (hl : args.length ≤ n := by exact nb) : Calls P f args.toArray w R := zw hfn hb hn hl h
end
section
variable {dd : Bool} {P : Program} {fn : Func} {E : Nat → Value} {W w : World} {μ : aY} {L : List (Nat × Obj)}
theorem rP {t : Tmp} {v : Value} (hST : ST dd dW w W μ L) (hr : fn.results = #[.tmp t] := by exact rfl) (hv : E t = v := by exact rfl) : qu P fn (fun e W' => e = .returned v ∧ Ex dd w W') .ret E W := dI hr hv ⟨rfl, hST.ex⟩
end
theorem ST.row1 {dd : Bool} {F : Nat → Prop} {w W : World} {μ : aY} {x : Nat × Obj} {L : List (Nat × Obj)} (h : ST dd F w W μ (x :: L)) : ST dd F w W μ ([x] ++ L) := h
theorem ST.row0 {dd : Bool} {F : Nat → Prop} {w W : World} {μ : aY} {L : List (Nat × Obj)} (h : ST dd F w W μ L) : ST dd F w W μ ([] ++ L) := h
theorem aL {E : Nat → Value} {ax : Array Operand} {l : List Value} (h : ax.toList.map (aR E) = l) : ax.map (aR E) ++ (#[] : Array Value) = l.toArray := by subst h; apply Array.ext'; simp
section
variable {dd : Bool}
variable {P : Program} {E : Nat → Value} {W : World} {d : Option Nat} {ty : TypeId} {pos : String} {af : Array Edge} {g : Option (Nat × Bool)}
  {F : Nat → Prop} {w : World} {μ : aY} {L : List (Nat × Obj)}
variable {f : FuncId} {fv : Operand} {ax : Array Operand} {ats : Array TypeId} {args : List Value} {v : Value} {K : Value → World → Prop}
theorem Eg (hST : ST dd F w W μ L) (he : ∀ args w, (callFunc f args).run P w = .ok (.enter f args) w) (hc : bW dd P f args W v) (h : ∀ W', ST dd F w W' μ L → K v W')
    (hf : aR E fv = .func (.func f) #[] #[] := by exact rfl) (ha : ax.toList.map (aR E) = args := by exact rfl) : fY P E ⟨d, .call ⟨.value fv, ax, ats⟩, ty, pos, af, g⟩ W K := uA hST hf he (aL ha) hc h
theorem mh {α : Type} {e : TypeId} {enc : α → List Value} {k : Nat} {l : List α} {Y : List (Nat × Obj)} (hST : ST dd F w W μ Y) (he : ∀ args w, (callFunc f args).run P w = .ok (.enter f args) w) (hc : fD dd P f args W e enc k l)
    (h : ∀ W' v μ' R, ST dd F w W' μ' (R ++ Y) → aW μ μ' → Lo F w μ μ' → bE e enc k v l R → K v W')
    (hf : aR E fv = .func (.func f) #[] #[] := by exact rfl) (ha : ax.toList.map (aR E) = args := by exact rfl) : fY P E ⟨d, .call ⟨.value fv, ax, ats⟩, ty, pos, af, g⟩ W K := AK _ hST hf he (aL ha) hc h
theorem iu {K' : Value → List (Nat × Obj) → World → Prop} {L0 L2 : List (Nat × Obj)} (hST : ST dd F w W μ L) (hL : L.Perm (L0 ++ L2)) (he : ∀ args w, (callFunc f args).run P w = .ok (.enter f args) w)
    (hc : tF L0 W → (L0.map (·.1)).Nodup → aW μ (mW W L0) → (∀ b o, (b, o) ∈ L2 → mW W L0 b = some o) → dJ dd P f args W L0 K')
    (h : ∀ W' v μ' L1, ST dd F w W' μ' (L1 ++ L2) → aW μ μ' → Lo F w μ μ' → (∀ b, W.heap.size ≤ b → ∀ o, mW W' L1 b = some o → μ' b = some o) → K' v L1 W' → K v W')
    (hf : aR E fv = .func (.func f) #[] #[] := by exact rfl) (ha : ax.toList.map (aR E) = args := by exact rfl) : fY P E ⟨d, .call ⟨.value fv, ax, ats⟩, ty, pos, af, g⟩ W K :=
  Dz L0 L2 hST hL hf he (aL ha) (fun a b c d => by have := hc a b c d; simpa using this) h
theorem je {K' : Value → List (Nat × Obj) → aY → Prop} {L0 L2 : List (Nat × Obj)} (hST : ST dd F w W μ L) (hL : L.Perm (L0 ++ L2)) (he : ∀ args w, (callFunc f args).run P w = .ok (.enter f args) w)
    (hc : tF L0 W → (L0.map (·.1)).Nodup → aW μ (mW W L0) → (∀ b o, (b, o) ∈ L2 → mW W L0 b = some o) → dO dd P f args W μ L0 K')
    (h : ∀ W' v μ' L1, ST dd F w W' μ' (L1 ++ L2) → aW μ μ' → Lo F w μ μ' → K' v L1 μ' → K v W')
    (hf : aR E fv = .func (.func f) #[] #[] := by exact rfl) (ha : ax.toList.map (aR E) = args := by exact rfl) : fY P E ⟨d, .call ⟨.value fv, ax, ats⟩, ty, pos, af, g⟩ W K :=
  vz L0 L2 hST hL hf he (aL ha) (fun a b c d => by have := hc a b c d; simpa using this) h
end
section
variable {E : Nat → Value} {x1 x2 x3 x4 x5 x6 x7 x8 : Operand} {v1 v2 v3 v4 v5 v6 v7 v8 : Value}
theorem Ft (h1 : aR E x1 = v1) : [x1].map (aR E) = [v1] := by rw [← h1]; rfl
theorem FQ (h1 : aR E x1 = v1) (h2 : aR E x2 = v2) : [x1, x2].map (aR E) = [v1, v2] := by rw [← h1, ← h2]; rfl
end
theorem Fp {i j : Int} {E : Nat → Value} {x : Operand} {k : IntKind} (h : (i == j) = true) (hx : aR E x = .int k i) : aR E x = .int k j := by rw [hx, eq_of_beq h]
end Go.Proofs.YtmlncblocfcmiaaGreat
namespace Go.Proofs.YtmlncblocfcmiaaGreat
open Go.RowKit
def Dn (R : List (Nat × Obj)) (k : Nat) (p : Value) (i fo : Nat) : Prop := ∃ g o, R = [(g, o)] ∧ p = .pointer (some ⟨g, i * k + fo, none⟩)
theorem pR.f {R : List (Nat × Obj)} {k : Nat} {p : Value} {i : Nat} (h : pR R k p i) : Dn R k p i 0 := h
section
variable {P : Program} {E : Nat → Value} {W : World} {d : Option Nat} {ty : TypeId} {pos : String} {af : Array Edge} {g : Option (Nat × Bool)}
  {dd : Bool} {F : Nat → Prop} {w : World} {μ : aY} {L : List (Nat × Obj)} {α : Type} {e' : TypeId} {enc : α → List Value} {k : Nat} {v : Value} {l : List α} {R : List (Nat × Obj)}
theorem xg {m : aY} {t : TypeId} {x : Operand} {f off i fo : Nat} {p : Value} {ys : List Value} (zs : List Value) (hf : dH P t f off) (hx : aR E x = p) (hv : At m p ys) (hp : Dn R k p i fo) (hz : (ys.drop off).take zs.length = zs) :
    ∃ v', (At m v' zs ∧ Dn R k v' i (fo + off)) ∧ ∀ W, dT P E ⟨d, .fieldAddr t x f, ty, pos, af, g⟩ W v' W := by
  obtain ⟨g', o', rfl, rfl⟩ := hp
  obtain ⟨b, o, cs, T, fr, e1, h1, h2⟩ := hv
  cases e1
  refine ⟨_, ⟨⟨g', (i * k + fo) + off, cs, T, fr, rfl, h1, fun j y hy => ?_⟩, ⟨g', o', rfl, by rw [Nat.add_assoc]⟩⟩, fun W => aM hf hx⟩
  have hj : j < zs.length := (List.getElem?_eq_some_iff.1 hy).1
  have := h2 (off + j) y (by
    rw [← hz, List.getElem?_take_of_lt hj, List.getElem?_drop] at hy
    exact hy)
  rw [Nat.add_assoc]
  exact this
theorem bE.put (h : bE e' enc k v l R) (hk : ∀ x, (enc x).length = k) {p : Value} {i : Nat} (hp : pR R k p i) {x0 : α} (hl : l[i]? = some x0) (x1 : α) :
    ∃ g cur, R = [(g, .cells cur e' (0, 0))] ∧ p = .pointer (some ⟨g, i * k, none⟩) ∧ i * k + k ≤ cur.size ∧ (∀ j y, (enc x0)[j]? = some y → cur[i * k + j]? = some y) ∧
      bE e' enc k v (l.set i x1) [(g, .cells (cur.toList.take (i * k) ++ enc x1 ++ cur.toList.drop (i * k + k)).toArray e' (0, 0))] := by
  have hlt : i < l.length := (List.getElem?_eq_some_iff.1 hl).1
  obtain ⟨g', cur, cap, rfl, rfl, h2, h3, h4, h5, rfl, h6⟩ := qp h hk hp hl
  have hle : i * k + k ≤ cap * k := by
    have : (i + 1) * k ≤ cap * k := Nat.mul_le_mul_right _ (by omega)
    rwa [Nat.add_mul, Nat.one_mul] at this
  have hle2 : i * k + k ≤ l.length * k := by
    have : (i + 1) * k ≤ l.length * k := Nat.mul_le_mul_right _ (by omega)
    rwa [Nat.add_mul, Nat.one_mul] at this
  have hlen : l.length * k ≤ cap * k := Nat.mul_le_mul_right _ h2
  refine ⟨g', cur, rfl, rfl, by rw [h4]; exact hle, h6, .inr ⟨g', cap, _, by simp, rfl, by simpa using h2, h3, ?_, ?_⟩⟩
  · show ((cur.toList.take (i * k) ++ (enc x1) ++ cur.toList.drop (i * k + k)).toArray).size = _
    have e0 : cur.toList.length = cap * k := by simpa using h4
    rw [List.size_toArray, List.length_append, List.length_append, List.length_take, List.length_drop, hk, e0, Nat.min_eq_left (by omega)]; omega
  · rw [List.length_set, vv hk l i x1 hlt, ← h5]
    have e1 : (cur.toList.take (l.length * k)).take (i * k) = cur.toList.take (i * k) := by rw [List.take_take]; congr 1; omega
    have e2 : (cur.toList.take (l.length * k)).drop (i * k + k) = (cur.toList.drop (i * k + k)).take (l.length * k - (i * k + k)) := by rw [List.drop_take]
    rw [e1, e2]
    show List.take (l.length * k) (cur.toList.take (i * k) ++ enc x1 ++ cur.toList.drop (i * k + k)) = _
    have e0 : cur.toList.length = cap * k := by simpa using h4
    have e3 : (cur.toList.take (i * k) ++ enc x1).length = i * k + k := by rw [List.length_append, List.length_take, hk, e0, Nat.min_eq_left (by omega)]
    rw [List.take_append, List.take_of_length_le (by rw [e3]; exact hle2), e3]
theorem Cd {ys us cur : List Value} {a k fo : Nat} (hy : ys.length = k) (hc : ∀ j y, ys[j]? = some y → cur[a + j]? = some y) (hb : fo + us.length ≤ k) (hl : a + k ≤ cur.length) :
    cur.take (a + fo) ++ us ++ cur.drop (a + fo + us.length) = cur.take a ++ (ys.take fo ++ us ++ ys.drop (fo + us.length)) ++ cur.drop (a + k) := by
  have e : cur = cur.take a ++ ys ++ cur.drop (a + k) := by
    have h1 : (cur.drop a).take k = ys := by
      refine List.ext_getElem? fun j => ?_
      by_cases hj : j < k
      · rw [List.getElem?_take_of_lt hj, List.getElem?_drop, List.getElem?_eq_getElem (by omega : j < ys.length)]
        exact hc j _ (List.getElem?_eq_getElem (by omega))
      · rw [List.getElem?_eq_none (by simp; omega), List.getElem?_eq_none (by omega)]
    rw [← h1, List.append_assoc, ← List.drop_drop, List.take_append_drop, List.take_append_drop]
  have hA : (cur.take a).length = a := by rw [List.length_take]; omega
  generalize cur.take a = A at e hA
  generalize cur.drop (a + k) = D at e
  subst e
  subst hA hy
  rw [List.append_assoc A ys D, List.take_length_add_append, Nat.add_assoc, List.drop_length_add_append, List.take_append_of_le_length (by omega), List.drop_append_of_le_length hb]
  simp
theorem tj {β : Type} {Rl : iX β} {l : List β} {B : List (Nat × Obj)} {K : Value → World → Prop} {Y : List (Nat × Obj)} {t : TypeId} {x y : Operand} {p0 p u : Value} {i fo : Nat} {x0 x1 : β} {ys : List Value} (us : List Value) (hD : Deep Rl k) (hST : ST dd F w W μ (B ++ Y)) (h : bX e' Rl k μ v l B)
    (hx : aR E x = p) (hy : aR E y = u) (hA : At (pM B) p0 ys) (hlen : ys.length = k) (hp : pR B k p0 i) (hf : Dn B k p i fo) (hl : l[i]? = some x0) (hu : u.cells.toList = us) (hr : Rl μ (ys.take fo ++ us ++ ys.drop (fo + us.length)) x1)
    (hS : ∀ w, (sizeOf t).run P w = .ok us.length w) (hb : fo + us.length ≤ k) (hK : ∀ W' R', ST dd F w W' μ (R' ++ Y) → bX e' Rl k μ v (l.set i x1) R' → K undef W') : fY P E ⟨d, .store t x y, ty, pos, af, g⟩ W K := by
  obtain ⟨cl, h1, h2⟩ := h
  obtain ⟨c, hc, _⟩ := h2.get hl
  obtain ⟨g', cur, rfl, rfl, q1, _, q2⟩ := bE.put h1 pc hp hc (hD.cell hr)
  obtain ⟨_, _, e1, rfl⟩ := hf
  cases e1
  obtain ⟨b, o, cs, T, fr, e2, a1, a2⟩ := hA
  cases e2
  have e3 : cs = cur := by
    simp only [pM, List.find?_cons_of_pos, beq_self_eq_true, Option.map_some, Option.some.injEq, Obj.cells.injEq] at a1
    exact a1.1.symm
  subst e3
  have hbx := (hST.box g' (.cells cs e' (0, 0)) (by simp)).1
  have hcs : u.cells.size = us.length := by rw [← hu]; simp
  have hpp := Cd (us := us) (cur := cs.toList) (a := i * k) hlen (fun j y hy => by simpa using a2 j y hy) hb (by simpa using q1)
  refine .inr (.inl ⟨W.setRow g' (cs.toList.take (i * k) ++ (ys.take fo ++ us ++ ys.drop (fo + us.length)) ++ cs.toList.drop (i * k + k)).toArray, ?_, hK _ _ (ST.store (A := []) hST _) ⟨_, q2, h2.set hr i⟩⟩)
  show (do Instr.storeAt t (aR E x) (aR E y); pure .skip : Sem Next).run P W = _
  rw [hx, hy]
  have hone : ∀ z ∈ us, z.oneCell' = true := fun z hz => hD.one hr z (by simp [hz])
  have := pe P (off := i * k + fo) u (by rw [hcs]; exact hS) (by rw [hu]; exact hone) hbx (by rw [hcs]; omega)
  simp only [Sem.run_bind, this, Result.andThen_ok, Sem.run_pure, hcs]
  rw [hu, hpp]
end
end Go.Proofs.YtmlncblocfcmiaaGreat
namespace Go.Proofs.YtmlncblocfcmiaaGreat
open Go.Sort Go.Proofs Go.Shelf
theorem uY {g b : Nat} {o : Obj} : keys [(g, o)] b ↔ b = g := by
  constructor
  · rintro ⟨o', h⟩
    simp at h
    exact h.1
  · rintro rfl; exact ⟨o, by simp⟩
theorem rb (w : World) (g m : Nat) (f : Array Value → Array Value) (os : Array Obj) (b : Nat) (hb : b < w.heap.size) :
    (Go.Sort.grow (mapBlock (Go.Sort.ahead w m) g f) os).heap[b]? = if g = b then w.heap[b]?.map (onCells f) else w.heap[b]? := by
  have hb' : b < (mapBlock (Go.Sort.ahead w m) g f).heap.size := by simp only [mapBlock, Go.Sort.ahead, Array.size_modify]; exact hb
  rw [heap_grow_old _ _ hb']
  simp only [mapBlock, Go.Sort.ahead, Array.getElem?_modify]
theorem zy {w : World} {g m : Nat} {f : Array Value → Array Value} {os : Array Obj} {cs : Array Value} {T : TypeId} {fr : Nat × Nat} (hg : w.heap[g]? = some (.cells cs T fr)) :
    mN true [(g, .cells cs T fr)] [(g, .cells (f cs) T fr)] w (Go.Sort.grow (mapBlock (Go.Sort.ahead w m) g f) os) := by
  have hlt : g < w.heap.size := (Array.getElem?_eq_some_iff.1 hg).1
  refine ⟨⟨rfl, rfl, rfl, ?_, ?_, fun b hb hn => ?_⟩, fun b o h => ?_, by simp⟩
  · refine lF.of ?_
    show w.drawn ≤ w.drawn + m
    omega
  · show w.heap.size ≤ (w.heap.modify g (onCells f) ++ os).size
    simp
  · rw [rb _ _ _ _ _ _ hb, if_neg fun h => hn (uY.2 h.symm)]
  · simp only [List.mem_cons, List.not_mem_nil, or_false, Prod.mk.injEq] at h
    obtain ⟨rfl, rfl⟩ := h
    refine ⟨?_, .inr (uY.2 rfl)⟩
    rw [rb _ _ _ _ _ _ hlt, if_pos rfl, hg]
    rfl
theorem AO {w W : World} (h : Ex true w W) : ∃ q os, W = Go.Sort.grow (w.drewN q) os := by
  refine ⟨W.drawn - w.drawn, W.heap.extract w.heap.size W.heap.size, ?_⟩
  have hh : W.heap = w.heap ++ W.heap.extract w.heap.size W.heap.size := by
    apply Array.ext_getElem?
    intro i
    rw [Array.getElem?_append]
    split
    · rename_i hi; exact h.old i hi
    · rename_i hi
      rw [Array.getElem?_extract]
      have hsz := h.size
      split
      · rw [show w.heap.size + (i - w.heap.size) = i by omega]
      · exact Array.getElem?_eq_none (by omega)
  obtain ⟨h1, h2, h3, h4, h5⟩ := W
  have e1 := h.os; have e2 := h.tape; have e3 := h.output; have e4 := h.drawn rfl
  simp only at e1 e2 e3 e4 hh
  unfold Go.Sort.grow World.drewN
  simp only [World.mk.injEq]
  exact ⟨hh, e2, by omega, e1, e3⟩
theorem zL {α : Type} [Inhabited α] {enc : α → List Value} {k : Nat} (hk : ∀ x, (enc x).length = k) (l : List α) (j : Nat) (hj : j < l.length * k) :
    (l.map enc).flatten[j]? = some ((flatK enc k l.toArray)[j]!) := by
  have k0 : 0 < k := by
    cases k with
    | zero => simp at hj
    | succ n => omega
  have h1 : j / k < l.length := (Nat.div_lt_iff_lt_mul k0).2 hj
  rw [get_flatK _ _ _ _ (by simpa using hj)]
  have e1 : l.toArray[j / k]! = l[j / k] := by
    rw [getElem!_pos l.toArray (j / k) (by simpa using h1)]; simp
  rw [e1]
  have h2 : j % k < (enc l[j / k]).length := by rw [hk]; exact Nat.mod_lt _ k0
  have h3 := nC hk l (j / k) l[j / k] (List.getElem?_eq_getElem h1) (j % k) ((enc l[j / k])[j % k]) (List.getElem?_eq_getElem h2)
  rw [Nat.div_add_mod' j k] at h3
  rw [h3, getElem!_pos (enc l[j / k]) (j % k) h2]
theorem xQ {α : Type} [Inhabited α] {enc : α → List Value} {k : Nat} (hk : ∀ x, (enc x).length = k) {w : World} {g : Nat} {cs : Array Value} {T : TypeId} (hg : w.heap[g]? = some (.cells cs T (0, 0))) (l : List α)
    (ht : cs.toList.take (l.length * k) = (l.map enc).flatten) : HoldsK enc k w g 0 l.toArray := by
  intro j hj
  have hj' : j < l.length * k := by simpa using hj
  have h1 := zL hk l j hj'
  rw [← ht, List.getElem?_take, if_pos hj'] at h1
  refine ⟨?_, ?_⟩
  · simp only [World.cell?, hg, Nat.zero_add]
    simpa using h1
  · simp [World.frozen?, hg]
theorem zA {α : Type} [Inhabited α] {enc : α → List Value} {k : Nat} (hk : ∀ x, (enc x).length = k) {cs : Array Value} (l : List α) (hs : l.length * k ≤ cs.size) :
    (putCells id 0 (flatK enc k l.toArray) cs).toList.take (l.length * k) = (l.map enc).flatten := by
  apply List.ext_getElem?
  intro j
  rw [List.getElem?_take]
  split
  · rename_i hj
    rw [zL hk l j hj]
    simp only [putCells, Array.getElem?_toList, Array.getElem?_mapIdx, size_flatK, List.size_toArray]
    rw [Array.getElem?_eq_getElem (by omega)]
    simp [hj]
  · rename_i hj
    rw [List.getElem?_eq_none (by rw [iZ hk]; omega)]
theorem xF (enc : Value → Value) (o : Nat) (d : Array Value) (c : Array Value) : (putCells enc o d c).size = c.size := by simp [putCells]
section
variable {α : Type} {P : Program} {ρ : Ren}
theorem En {l : List α} {cf : α × α → Option Int} (h : tQ cf l) : SWO (ltOf fun (x y : {x // x ∈ l}) => (cf (x.1, y.1)).getD 0) ∧
    (∀ x y : {x // x ∈ l}, ltOf (fun (x y : {x // x ∈ l}) => (cf (x.1, y.1)).getD 0) x y = lL cf x.1 y.1) := by
  have e : ∀ x y : {x // x ∈ l}, ltOf (fun (x y : {x // x ∈ l}) => (cf (x.1, y.1)).getD 0) x y = lL cf x.1 y.1 := fun x y => by
    obtain ⟨c, hc⟩ := h.is x.1 x.2 y.1 y.2
    simp [ltOf, lL, hc]
  refine ⟨⟨fun x => ?_, fun x y z => ?_, fun x y z => ?_⟩, e⟩
  · rw [e]; exact h.irrefl _ x.2
  · rw [e, e, e]; exact h.trans _ x.2 _ y.2 _ z.2
  · rw [e, e, e]
    intro h1 h2
    cases h3 : lL cf x.1 z.1 with
    | false => rfl
    | true =>
      cases h4 : lL cf y.1 x.1 with
      | true =>
        have := h.trans _ y.2 _ x.2 _ z.2 h4 h3
        rw [h2] at this; cases this
      | false =>
        have := h.total _ x.2 _ y.2 h1 h4
        rw [this, h2] at h3; cases h3
theorem zm (L : SlLaysF0.n6 P ρ) (k : Nat) (aE : ∀ w, (isAgg (ρ.t 24)).run P w = .ok true w) (zE : ∀ w, (Go.sizeOf (ρ.t 24)).run P w = .ok k w) {e : TypeId} (enc : α → List Value) (hk : ∀ x, (enc x).length = k) (h1 : ∀ x, ∀ u ∈ enc x, u.oneCell' = true)
    {v fv : Value} {l r : List α} {R : List (Nat × Obj)} {cf : α × α → Option Int} {w : World} {μ0 : aY} (hH : tF (R ++ []) w) (hS0 : aW μ0 (mW w (R ++ []))) (hr : bE e enc k v l R)
    (hc : Fl P fv μ0 (fun (x : α × α) => [(.agg (enc x.1).toArray), (.agg (enc x.2).toArray)]) (fun (r : Int) => (.int .i64 r)) cf) (hm : qG cf l = some r) :
    dJ true P (ρ.f 6) [v, fv] w (R ++ []) (fun u L1 _ => ∃ (S : List (Nat × Obj)), u = (.tuple #[]) ∧ L1 = (S ++ []) ∧ bE e enc k v r S) := by
  obtain ⟨ok, rfl⟩ := A0 hm
  rw [List.append_nil] at hH hS0 ⊢
  rcases Nat.eq_zero_or_pos l.length with h0 | hpos
  · have hl : l = [] := List.eq_nil_of_length_eq_zero h0
    subst hl
    have hs : lX cf ([] : List α) = [] := by simp [lX]
    rw [hs]
    obtain ⟨p, c, rfl⟩ : ∃ p c, v = .slice p 0 c := by
      rcases hr with ⟨rfl, _, _⟩ | ⟨g, cap, cur, rfl, _⟩
      · exact ⟨_, _, rfl⟩
      · exact ⟨_, _, rfl⟩
    refine Calls.mono (AnyF.slices_SortFunc_none L p c fv w) fun x w' ⟨hx, hw⟩ => ?_
    subst hx hw
    refine ⟨_, R, rfl, ⟨⟨rfl, rfl, rfl, lF.of (Nat.le_refl _), Nat.le_refl _, fun _ _ _ => rfl⟩, fun b o h => ⟨hH b o h, .inr ⟨o, h⟩⟩, ?_⟩, R, rfl, (List.append_nil R).symm, hr⟩
    rcases hr with ⟨_, _, rfl⟩ | ⟨g, cap, cur, _, rfl, _⟩ <;> simp
  · rcases hr with ⟨_, rfl, _⟩ | ⟨g, cap, cur, rfl, rfl, hlc, hcm, hcs, htk⟩
    · simp at hpos
    have hg : w.heap[g]? = some (.cells cur e (0, 0)) := hH g _ (by simp)
    have hlt : g < w.heap.size := (Array.getElem?_eq_some_iff.1 hg).1
    haveI : Inhabited {x // x ∈ l} := ⟨⟨l[0], List.getElem_mem hpos⟩⟩
    obtain ⟨gg, caps, rfl, hent, hgive⟩ := hc
    obtain ⟨hO, hlo⟩ := En ok
    have hal : l.attach.toArray.size = l.length := by simp
    have hmv : l.attach.map (fun x => enc x.1) = l.map enc := by
      rw [show (fun x : {x // x ∈ l} => enc x.1) = enc ∘ Subtype.val from rfl, ← List.map_map, List.attach_map_subtype_val]
    have hH2 : HoldsK (fun x : {x // x ∈ l} => enc x.1) k w g 0 l.attach.toArray := xQ (fun x => hk x.1) hg l.attach (by rw [hmv, List.length_attach, htk])
    have hcmp : CmpLays P gg caps (fun x : {x // x ∈ l} => enc x.1) k (fun x y => (cf (x.1, y.1)).getD 0) g 0 l.attach.toArray.size w := by
      intro m os dk hdk x y
      obtain ⟨c, hcc⟩ := ok.is x.1 x.2 y.1 y.2
      have hsub : aW μ0 (hp (sortWorldK (fun x : {x // x ∈ l} => enc x.1) k w g 0 m dk os)) := fun b o hb => by
        have h2 := hS0 b o hb
        unfold mW at h2
        split at h2
        · cases h2
        · rename_i hn
          have hbl : b < w.heap.size := (Array.getElem?_eq_some_iff.1 h2).1
          show (Go.Sort.grow (mapBlock (Go.Sort.ahead w m) g _) os).heap[b]? = _
          rw [rb _ _ _ _ _ _ hbl, if_neg fun h => hn (uY.2 h.symm)]
          exact h2
      have h3 := hgive (sortWorldK (fun x : {x // x ∈ l} => enc x.1) k w g 0 m dk os) (x.1, y.1) c hsub hcc
      have ea : ([Value.agg (enc x.1).toArray, Value.agg (enc y.1).toArray] ++ caps.toList).toArray = #[Value.agg (enc x.1).toArray, Value.agg (enc y.1).toArray] ++ caps := by
        apply Array.ext'; simp
      rw [← ea]
      exact Calls.mono h3 fun u W' hu => ⟨by rw [hu.1]; show _ = Ending.returned (.int .i64 ((cf (x.1, y.1)).getD 0)); rw [hcc]; rfl, AO hu.2⟩
    have hT : ∀ x y : {x // x ∈ l}, ltOf (fun (x y : {x // x ∈ l}) => (cf (x.1, y.1)).getD 0) x y = false → ltOf (fun (x y : {x // x ∈ l}) => (cf (x.1, y.1)).getD 0) y x = false → x = y := fun x y a b => by
      rw [hlo] at a b
      exact Subtype.ext (ok.total _ x.2 _ y.2 a b)
    have hmain := AnyQ.slices_SortFunc_total L k aE zE (fun x : {x // x ∈ l} => enc x.1) (fun x => hk x.1) (fun x => h1 x.1) (fun x y => (cf (x.1, y.1)).getD 0) hO gg caps g 0 cap l.attach.toArray w hent hcmp hH2 hlt (by rw [hal]; exact ok.short) hT
    rw [hal] at hmain
    refine Calls.mono hmain fun u w' ⟨hu, n, os, hw⟩ => ?_
    subst hu
    generalize hs : l.attach.toArray.toList.mergeSort (fun x y => !ltOf (fun (x y : {x // x ∈ l}) => (cf (x.1, y.1)).getD 0) y x) = s at hw
    have hsm : s.map Subtype.val = lX cf l := by
      rw [← hs, List.map_mergeSort (s := fun x y => !lL cf y x) (fun a _ b _ => by rw [hlo])]
      simp [lX]
    have hsl : s.length = l.length := by rw [← hs, List.length_mergeSort]; simp
    have hrl : (lX cf l).length = l.length := by simp [lX, List.length_mergeSort]
    have hbk := zy (w := w) (m := n) (f := putCells id 0 (flatK (fun x : {x // x ∈ l} => enc x.1) k s.toArray)) (os := os) hg
    have hw2 : w' = Go.Sort.grow (mapBlock (Go.Sort.ahead w n) g (putCells id 0 (flatK (fun x : {x // x ∈ l} => enc x.1) k s.toArray))) os := hw
    rw [← hw2] at hbk
    refine ⟨_, _, rfl, hbk, _, rfl, (List.append_nil _).symm, .inr ⟨g, cap, _, by rw [hrl], rfl, by omega, hcm, by rw [xF, hcs], ?_⟩⟩
    rw [hrl, ← hsl, zA (fun x => hk x.1) s (by rw [hsl, hcs]; exact Nat.mul_le_mul_right k hlc), ← hsm, List.map_map]
    rfl
end
end Go.Proofs.YtmlncblocfcmiaaGreat
namespace Go.Proofs.YtmlncblocfcmiaaGreat
open Go.Sort Go.Proofs Go.Shelf
theorem tL (b : ByteArray) : b.toList = b.data.toList := by rw [ByteArray.toList_eq]
theorem EC (l : List ByteArray) : (l.map su).flatten = l.map Value.string := by
  induction l with
  | nil => rfl
  | cons x l ih => simp only [List.map_cons, List.flatten_cons, ih]; rfl
theorem Cl (l : List ByteArray) : (ms l).map (fun b => b.data.toList) = (l.map (fun b => b.data.toList)).mergeSort (fun x y => decide (x ≤ y)) := by
  unfold ms
  refine List.map_mergeSort fun a _ b _ => ?_
  unfold uK
  rw [bytesLess_eq, tL, tL]
  by_cases h : a.data.toList ≤ b.data.toList
  · have h' : ¬ b.data.toList < a.data.toList := List.not_lt.2 h
    simp [h, h']
  · have h' : b.data.toList < a.data.toList := by
      cases Decidable.em (b.data.toList < a.data.toList) with
      | inl h2 => exact h2
      | inr h2 => exact absurd (List.not_lt.1 h2) h
    simp [h, h']
end Go.Proofs.YtmlncblocfcmiaaGreat
namespace Go.Proofs.YtmlncblocfcmiaaGreat
open Go.WideElems Go.WideShapes Go.Sort Go.Proofs Go.Shelf
theorem zp {β : Type} {vf : β → Value} {P : Program} {kt : TypeId} (ht : P.underlying kt = some .string) {l : List (ByteArray × β)} {es : Array MapEntry} {clock : Nat} (h : mi Value.string vf l es clock) (hn : (l.map (·.1)).Nodup) (hs : ∀ p ∈ l, p.1.size ≤ maxLen) (hl : l.length ≤ maxLen)
    {W : World} {b : Nat} (hb : W.heap[b]? = some (.map es clock)) : ∃ D : DataW Unit, W.ownsMap P kt (fun _ => some (.lit (.bool true), [])) b es.size D ∧ (strKeys D).Perm (l.map (fun p => p.1.data.toList)) ∧ Maps.size D = l.length := by
  have hkeys := h.keys
  have hrd : ∀ x ∈ es.toList, ∃ s : ByteArray, x.key = .string s ∧ s.size ≤ maxLen := fun x hx => by
    have h1 : x.key ∈ es.toList.map (·.key) := List.mem_map.2 ⟨x, hx, rfl⟩
    rw [hkeys] at h1
    obtain ⟨s, h2, h3⟩ := List.mem_map.1 h1
    obtain ⟨p, h4, h5⟩ := List.mem_map.1 h2
    exact ⟨s, h3.symm, by rw [← h5]; exact hs p h4⟩
  have hrd2 : ∀ x ∈ es.toList, ∃ s : ByteArray, x.key = .string s ∧ Go.WideElems.rd (H := Unit) P kt (fun _ => some (.lit (.bool true), [])) x = some (.string s.data.toList, .lit (.bool true)) := fun x hx => by
    obtain ⟨s, h1, h2⟩ := hrd x hx
    refine ⟨s, h1, ?_⟩
    simp [Go.WideElems.rd, keyOf, ht, mapKey, h1, h2]
  refine ⟨_, ⟨es, clock, hb, ⟨by rw [h.length]; exact hl, ⟨h.lt, ?_, ?_⟩, fun x hx => ?_⟩, Nat.le_refl _, rfl⟩, ?_, ?_⟩
  · have := h.born
    rw [List.Nodup, List.pairwise_map]
    exact this.imp (fun {a b} h => by omega)
  · rw [hkeys]
    rw [List.Nodup, List.pairwise_map]
    exact hn.imp (fun {a b} hab e => hab (by injection e))
  · obtain ⟨s, _, h2⟩ := hrd2 x hx
    exact ⟨_, h2⟩
  · have h1 := (sorted_perm (es.toList.map (Go.WideElems.rg (H := Unit) P kt (fun _ => some (.lit (.bool true), []))))).map (fun p => strOf p.1)
    refine List.Perm.trans h1 ?_
    have e : (es.toList.map (Go.WideElems.rg (H := Unit) P kt (fun _ => some (.lit (.bool true), [])))).map (fun p => strOf p.1) = l.map (fun p => p.1.data.toList) := by
      have e1 : (es.toList.map (Go.WideElems.rg (H := Unit) P kt (fun _ => some (.lit (.bool true), [])))).map (fun p => strOf p.1) = (es.toList.map (·.key)).map (fun v => match v with | .string s => s.data.toList | _ => []) := by
        rw [List.map_map, List.map_map]
        refine List.map_congr_left fun x hx => ?_
        obtain ⟨s, h2, h3⟩ := hrd2 x hx
        simp [Go.WideElems.rg, h3, h2, strOf]
      rw [e1, hkeys, List.map_map, List.map_map]
      rfl
    rw [e]
  · have h1 := (sorted_perm (es.toList.map (Go.WideElems.rg (H := Unit) P kt (fun _ => some (.lit (.bool true), []))))).length_eq
    show (List.foldr DataW.insert [] _).length = _
    rw [h1, List.length_map, ← h.length]
    simp
theorem xJ {l : List ByteArray} {ss : List (List UInt8)} (h : ss.Perm (l.map fun b => b.data.toList)) : ss.mergeSort (fun x y => decide (x ≤ y)) = (ms l).map (fun b => b.data.toList) := by
  rw [Cl]
  have le : ∀ a b c : List UInt8, decide (a ≤ b) = true → decide (b ≤ c) = true → decide (a ≤ c) = true := fun a b c h1 h2 => by
    simp only [decide_eq_true_eq] at *
    exact List.le_trans h1 h2
  have tot : ∀ a b : List UInt8, (decide (a ≤ b) || decide (b ≤ a)) = true := fun a b => by
    simp only [Bool.or_eq_true, decide_eq_true_eq]
    exact List.le_total a b
  refine List.Perm.eq_of_pairwise (le := fun a b => decide (a ≤ b) = true) (fun a b _ _ h1 h2 => List.le_antisymm (by simpa using h1) (by simpa using h2)) (List.pairwise_mergeSort le tot _) (List.pairwise_mergeSort le tot _) ?_
  exact (List.mergeSort_perm _ _).trans (h.trans (List.mergeSort_perm _ _).symm)
section
variable {P : Program} {ρk ρt ρm : Ren}
theorem zn (LK : SlLaysZ.n7 P ρk) (LT : SlLaysZ.n6 P ρt) (LM : SlLaysM.n6 P ρm) (h9 : ρt.f 9 = ρm.f 6) (hK : P.underlying (ρk.t 26) = some .string) (eg : ∀ args w, (callFunc (ρk.f 10) args).run P w = .ok (.enter (ρk.f 10) args) w) (es : ∀ args w, (callFunc (ρt.f 9) args).run P w = .ok (.enter (ρt.f 9) args) w)
    {β : Type} {vf : β → Value} {l : List (ByteArray × β)} {b : Nat} {mv : Value} {t : TypeId} {W : World} {r : List ByteArray} (hb : W.heap[b]? = some (.cells #[mv] t (0, 0))) (hm : nn Value.string vf (hp W) mv l) (hk : wr l = some r) :
    fD false P (ρt.f 6) [.func (.func (ρk.f 10)) #[] #[.pointer (some ⟨b, 0, none⟩)]] W (ρt.t 26) su 1 r := by
  unfold wr at hk
  split at hk
  case isFalse => cases hk
  rename_i hc
  obtain ⟨hc1, hc2, hc3⟩ := hc
  cases hk
  have hblt : b < W.heap.size := (Array.getElem?_eq_some_iff.1 hb).1
  have hcell : W.cell? ⟨b, 0, none⟩ = some mv := by simp [World.cell?, hb]
  have hsort : AnyZ.SortsIn P ρt Fence.wide 4 :=
    ⟨fun blk off cap ss W hH hblk hsz => callsIn_wide.2 (by rw [h9]; exact AnyM.slices_Sort_string LM blk off cap ss W hH hblk hsz), fun p cap W => callsIn_wide.2 (by rw [h9]; exact AnyM.slices_Sort_string_none LM p cap W)⟩
  have hseq : SeqGives Fence.wide 2 P (ρk.f 10) #[.pointer (some ⟨b, 0, none⟩)] encStr (fun ss => ss.Perm ((l.map (·.1)).map fun b => b.data.toList)) l.length W := by
    rcases hm with ⟨rfl, rfl⟩ | ⟨m, es, clock, rfl, hmb, hmap⟩
    · have := AnyZ.keys_gives_nil (ρ := ρk) { LK with } Fence.wide 2 trivial rfl b W hblt hcell
      intro l' J W' hW hJ hY h0
      refine CallsIn.mono (this l' J W' hW hJ hY h0) ?_
      rintro e w' ⟨hv, ss, rfl, hj⟩
      exact ⟨hv, [], List.Perm.refl _, hj⟩
    · obtain ⟨D, hown, hperm, hsz⟩ := zp hK hmap hc1 hc2 (by unfold maxLen; omega) hmb
      have := AnyZ.keys_gives (ρ := ρk) { LK with } Fence.wide 2 trivial rfl (by omega) b m es.size D W hblt hcell hown
      intro l' J W' hW hJ hY h0
      refine CallsIn.mono (this l' J W' hW hJ (by rw [hsz]; exact hY) h0) ?_
      rintro e w' ⟨hv, ss, hp, hj⟩
      refine ⟨hv, ss, ?_, hj⟩
      rw [List.map_map]
      exact hp.trans hperm
  have cS := AnyZ.sorted_in LT Fence.wide 5 trivial trivial trivial trivial rfl (by omega) hsort es (ρk.f 10) #[.pointer (some ⟨b, 0, none⟩)] trivial eg _ l.length (by unfold maxLen; omega) hc3 W hseq
  refine Calls.mono (callsIn_wide.1 cS) ?_
  rintro e w' ⟨v, ss, rfl, hS, hrow, hnil, hbel⟩
  have hs := xJ hS
  have hlen : ss.length = (ms (l.map (·.1))).length := by
    have := congrArg List.length hs
    simpa using this
  have hflat : (ss.mergeSort (fun x y => decide (x ≤ y))).map encStr = ((ms (l.map (·.1))).map su).flatten := by
    rw [hs, EC, List.map_map]
    refine List.map_congr_left (fun x _ => ?_)
    simp only [Function.comp, encStr]
  rcases hrow.2 with ⟨rfl, h0⟩ | ⟨g, cap, cur, rfl, hbase, hg, hnc, hcm, hcs, htk⟩
  · have : ms (l.map (·.1)) = [] := List.eq_nil_of_length_eq_zero (by omega)
    rw [this]
    exact ⟨_, [], rfl, mN.of_ex ⟨hbel.os, hbel.tape, hbel.output, fun h => (by cases h), hbel.size, fun b hb => hbel.block b hb⟩ (fun _ _ h => by cases h) (by simp), bE.nil _ _ _⟩
  · refine ⟨_, [(g, .cells cur (ρt.t 26) (0, 0))], rfl, mN.of_ex ⟨hbel.os, hbel.tape, hbel.output, fun h => (by cases h), hbel.size, fun b hb => hbel.block b hb⟩ (fun b o h => by simp at h; obtain ⟨rfl, rfl⟩ := h; exact ⟨hg, hbase⟩) (by simp), .inr ⟨g, cap, cur, by rw [hlen], rfl, by omega, hcm, hcs, ?_⟩⟩
    rw [← hlen, htk, hflat]
end
end Go.Proofs.YtmlncblocfcmiaaGreat
namespace Go.Proofs.YtmlncblocfcmiaaGreat
def BH : Go.Shelf.Ren := ⟨fun | 6 => 230 | 15 => 322 | 14 => 321 | 28 => 367 | 29 => 368 | 20 => 359 | 21 => 360 | 22 => 361 | 23 => 362 | 24 => 363 | 25 => 364 | 26 => 365 | 27 => 366 | 46 => 410 | 47 => 411 | 48 => 412 | 49 => 413 | 50 => 414 | 57 => 449 | n => n, fun | 22 => 22 | 24 => 53 | 25 => 194 | 3 => 3 | 39 => 353 | 0 => 0 | 53 => 389 | 55 => 309 | 4 => 4 | 46 => 383 | 45 => 382 | 50 => 39 | 5 => 5 | 9 => 9 | 66 => 419 | 70 => 423 | 76 => 446 | 77 => 274 | n => n, fun | n => n⟩
theorem EZ : Go.Proofs.SlLaysF0.n6 Tryz.prog BH := {
  mixed := by kernel_rfl,
  f6 := ⟨Tryz.f230.name, by decide, Tryz.func230.trans (congrArg some (by kernel_rfl))⟩,
  f14 := ⟨Tryz.f321.name, by decide, Tryz.func321.trans (congrArg some (by kernel_rfl))⟩,
  f15 := Tryz.func322.trans (congrArg some (by kernel_rfl)),
  f20 := ⟨Tryz.f359.name, by decide, Tryz.func359.trans (congrArg some (by kernel_rfl))⟩,
  f21 := ⟨Tryz.f360.name, by decide, Tryz.func360.trans (congrArg some (by kernel_rfl))⟩,
  f22 := ⟨Tryz.f361.name, by decide, Tryz.func361.trans (congrArg some (by kernel_rfl))⟩,
  f23 := ⟨Tryz.f362.name, by decide, Tryz.func362.trans (congrArg some (by kernel_rfl))⟩,
  f24 := ⟨Tryz.f363.name, by decide, Tryz.func363.trans (congrArg some (by kernel_rfl))⟩,
  f25 := ⟨Tryz.f364.name, by decide, Tryz.func364.trans (congrArg some (by kernel_rfl))⟩,
  f26 := ⟨Tryz.f365.name, by decide, Tryz.func365.trans (congrArg some (by kernel_rfl))⟩,
  f27 := ⟨Tryz.f366.name, by decide, Tryz.func366.trans (congrArg some (by kernel_rfl))⟩,
  f28 := Tryz.func367.trans (congrArg some (by kernel_rfl)),
  f29 := Tryz.func368.trans (congrArg some (by kernel_rfl)),
  f46 := ⟨Tryz.f410.name, by decide, Tryz.func410.trans (congrArg some (by kernel_rfl))⟩,
  f47 := Tryz.func411.trans (congrArg some (by kernel_rfl)),
  f48 := Tryz.func412.trans (congrArg some (by kernel_rfl)),
  f49 := ⟨Tryz.f413.name, by decide, Tryz.func413.trans (congrArg some (by kernel_rfl))⟩,
  f50 := ⟨Tryz.f414.name, by decide, Tryz.func414.trans (congrArg some (by kernel_rfl))⟩,
  f57 := ⟨Tryz.f449.name, by decide, Tryz.func449.trans (congrArg some (by kernel_rfl))⟩,
  t0 := Tryz.underlying0,
  a0 := Tryz.isAgg0,
  z0 := Tryz.sizeOf0,
  v0 := Tryz.zeroValue0,
  t3 := Tryz.underlying3,
  a3 := Tryz.isAgg3,
  z3 := Tryz.sizeOf3,
  v3 := Tryz.zeroValue3,
  t4 := Tryz.underlying4,
  a4 := Tryz.isAgg4,
  z4 := Tryz.sizeOf4,
  v4 := Tryz.zeroValue4,
  t5 := Tryz.underlying5,
  a5 := Tryz.isAgg5,
  z5 := Tryz.sizeOf5,
  v5 := Tryz.zeroValue5,
  t9 := Tryz.underlying9,
  a9 := Tryz.isAgg9,
  z9 := Tryz.sizeOf9,
  v9 := Tryz.zeroValue9,
  t22 := Tryz.underlying22,
  a22 := Tryz.isAgg22,
  z22 := Tryz.sizeOf22,
  v22 := Tryz.zeroValue22,
  t25 := Tryz.underlying194,
  a25 := Tryz.isAgg194,
  z25 := Tryz.sizeOf194,
  v25 := Tryz.zeroValue194,
  t39 := Tryz.underlying353,
  a39 := Tryz.isAgg353,
  z39 := Tryz.sizeOf353,
  v39 := Tryz.zeroValue353,
  t45 := Tryz.underlying382,
  a45 := Tryz.isAgg382,
  z45 := Tryz.sizeOf382,
  v45 := Tryz.zeroValue382,
  t46 := Tryz.underlying383,
  a46 := Tryz.isAgg383,
  z46 := Tryz.sizeOf383,
  v46 := Tryz.zeroValue383,
  t50 := Tryz.underlying39,
  a50 := Tryz.isAgg39,
  z50 := Tryz.sizeOf39,
  v50 := Tryz.zeroValue39,
  t53 := Tryz.underlying389,
  a53 := Tryz.isAgg389,
  z53 := Tryz.sizeOf389,
  v53 := Tryz.zeroValue389,
  t55 := Tryz.underlying309,
  a55 := Tryz.isAgg309,
  z55 := Tryz.sizeOf309,
  v55 := Tryz.zeroValue309,
  t66 := Tryz.underlying419,
  a66 := Tryz.isAgg419,
  z66 := Tryz.sizeOf419,
  v66 := Tryz.zeroValue419,
  t70 := Tryz.underlying423,
  a70 := Tryz.isAgg423,
  z70 := Tryz.sizeOf423,
  v70 := Tryz.zeroValue423,
  t76 := Tryz.underlying446,
  a76 := Tryz.isAgg446,
  z76 := Tryz.sizeOf446,
  v76 := Tryz.zeroValue446,
  t77 := Tryz.underlying274,
  a77 := Tryz.isAgg274,
  z77 := Tryz.sizeOf274,
  v77 := Tryz.zeroValue274}
def Es : Go.Shelf.Ren := ⟨fun | 6 => 273 | 8 => 322 | 9 => 343 | 19 => 367 | 20 => 368 | 21 => 396 | 22 => 397 | 23 => 398 | 24 => 399 | 25 => 400 | 26 => 401 | 27 => 402 | 28 => 403 | 29 => 404 | 36 => 426 | 31 => 411 | 32 => 412 | 37 => 427 | 38 => 428 | 39 => 429 | 41 => 454 | n => n, fun | 27 => 82 | 29 => 9 | 3 => 3 | 32 => 353 | 26 => 82 | 0 => 0 | 44 => 389 | 46 => 309 | 4 => 4 | 36 => 383 | 35 => 382 | 41 => 39 | 5 => 5 | 9 => 9 | 53 => 419 | 57 => 423 | 63 => 446 | 64 => 274 | n => n, fun | n => n⟩
theorem Ez : Go.Proofs.SlLaysM.n6 Tryz.prog Es := {
  mixed := by kernel_rfl,
  f6 := ⟨Tryz.f273.name, by decide, Tryz.func273.trans (congrArg some (by kernel_rfl))⟩,
  f8 := Tryz.func322.trans (congrArg some (by kernel_rfl)),
  f9 := ⟨Tryz.f343.name, by decide, Tryz.func343.trans (congrArg some (by kernel_rfl))⟩,
  f19 := Tryz.func367.trans (congrArg some (by kernel_rfl)),
  f20 := Tryz.func368.trans (congrArg some (by kernel_rfl)),
  f21 := ⟨Tryz.f396.name, by decide, Tryz.func396.trans (congrArg some (by kernel_rfl))⟩,
  f22 := ⟨Tryz.f397.name, by decide, Tryz.func397.trans (congrArg some (by kernel_rfl))⟩,
  f23 := ⟨Tryz.f398.name, by decide, Tryz.func398.trans (congrArg some (by kernel_rfl))⟩,
  f24 := ⟨Tryz.f399.name, by decide, Tryz.func399.trans (congrArg some (by kernel_rfl))⟩,
  f25 := ⟨Tryz.f400.name, by decide, Tryz.func400.trans (congrArg some (by kernel_rfl))⟩,
  f26 := ⟨Tryz.f401.name, by decide, Tryz.func401.trans (congrArg some (by kernel_rfl))⟩,
  f27 := ⟨Tryz.f402.name, by decide, Tryz.func402.trans (congrArg some (by kernel_rfl))⟩,
  f28 := ⟨Tryz.f403.name, by decide, Tryz.func403.trans (congrArg some (by kernel_rfl))⟩,
  f29 := ⟨Tryz.f404.name, by decide, Tryz.func404.trans (congrArg some (by kernel_rfl))⟩,
  f31 := Tryz.func411.trans (congrArg some (by kernel_rfl)),
  f32 := Tryz.func412.trans (congrArg some (by kernel_rfl)),
  f36 := ⟨Tryz.f426.name, by decide, Tryz.func426.trans (congrArg some (by kernel_rfl))⟩,
  f37 := ⟨Tryz.f427.name, by decide, Tryz.func427.trans (congrArg some (by kernel_rfl))⟩,
  f38 := ⟨Tryz.f428.name, by decide, Tryz.func428.trans (congrArg some (by kernel_rfl))⟩,
  f39 := ⟨Tryz.f429.name, by decide, Tryz.func429.trans (congrArg some (by kernel_rfl))⟩,
  f41 := ⟨Tryz.f454.name, by decide, Tryz.func454.trans (congrArg some (by kernel_rfl))⟩,
  t0 := Tryz.underlying0,
  a0 := Tryz.isAgg0,
  z0 := Tryz.sizeOf0,
  v0 := Tryz.zeroValue0,
  t3 := Tryz.underlying3,
  a3 := Tryz.isAgg3,
  z3 := Tryz.sizeOf3,
  v3 := Tryz.zeroValue3,
  t4 := Tryz.underlying4,
  a4 := Tryz.isAgg4,
  z4 := Tryz.sizeOf4,
  v4 := Tryz.zeroValue4,
  t5 := Tryz.underlying5,
  a5 := Tryz.isAgg5,
  z5 := Tryz.sizeOf5,
  v5 := Tryz.zeroValue5,
  t9 := Tryz.underlying9,
  a9 := Tryz.isAgg9,
  z9 := Tryz.sizeOf9,
  v9 := Tryz.zeroValue9,
  t26 := Tryz.underlying82,
  a26 := Tryz.isAgg82,
  z26 := Tryz.sizeOf82,
  v26 := Tryz.zeroValue82,
  t27 := Tryz.underlying82,
  a27 := Tryz.isAgg82,
  z27 := Tryz.sizeOf82,
  v27 := Tryz.zeroValue82,
  t29 := Tryz.underlying9,
  a29 := Tryz.isAgg9,
  z29 := Tryz.sizeOf9,
  v29 := Tryz.zeroValue9,
  t32 := Tryz.underlying353,
  a32 := Tryz.isAgg353,
  z32 := Tryz.sizeOf353,
  v32 := Tryz.zeroValue353,
  t35 := Tryz.underlying382,
  a35 := Tryz.isAgg382,
  z35 := Tryz.sizeOf382,
  v35 := Tryz.zeroValue382,
  t36 := Tryz.underlying383,
  a36 := Tryz.isAgg383,
  z36 := Tryz.sizeOf383,
  v36 := Tryz.zeroValue383,
  t41 := Tryz.underlying39,
  a41 := Tryz.isAgg39,
  z41 := Tryz.sizeOf39,
  v41 := Tryz.zeroValue39,
  t44 := Tryz.underlying389,
  a44 := Tryz.isAgg389,
  z44 := Tryz.sizeOf389,
  v44 := Tryz.zeroValue389,
  t46 := Tryz.underlying309,
  a46 := Tryz.isAgg309,
  z46 := Tryz.sizeOf309,
  v46 := Tryz.zeroValue309,
  t53 := Tryz.underlying419,
  a53 := Tryz.isAgg419,
  z53 := Tryz.sizeOf419,
  v53 := Tryz.zeroValue419,
  t57 := Tryz.underlying423,
  a57 := Tryz.isAgg423,
  z57 := Tryz.sizeOf423,
  v57 := Tryz.zeroValue423,
  t63 := Tryz.underlying446,
  a63 := Tryz.isAgg446,
  z63 := Tryz.sizeOf446,
  v63 := Tryz.zeroValue446,
  t64 := Tryz.underlying274,
  a64 := Tryz.isAgg274,
  z64 := Tryz.sizeOf274,
  v64 := Tryz.zeroValue274}
def DM : Go.Shelf.Ren := ⟨fun | 7 => 234 | 10 => 327 | n => n, fun | 23 => 296 | 26 => 9 | 3 => 4 | 28 => 223 | 0 => 0 | 27 => 222 | 33 => 214 | 4 => 4 | n => n, fun | n => n⟩
theorem DR : Go.Proofs.SlLaysZ.n7 Tryz.prog DM := {
  mixed := by kernel_rfl,
  f7 := ⟨Tryz.f234.name, by decide, Tryz.func234.trans (congrArg some (by kernel_rfl))⟩,
  f10 := ⟨Tryz.f327.name, by decide, Tryz.func327.trans (congrArg some (by kernel_rfl))⟩,
  t0 := Tryz.underlying0,
  a0 := Tryz.isAgg0,
  z0 := Tryz.sizeOf0,
  v0 := Tryz.zeroValue0,
  t4 := Tryz.underlying4,
  a4 := Tryz.isAgg4,
  z4 := Tryz.sizeOf4,
  v4 := Tryz.zeroValue4,
  t23 := Tryz.underlying296,
  a23 := Tryz.isAgg296,
  z23 := Tryz.sizeOf296,
  v23 := Tryz.zeroValue296,
  t26 := Tryz.underlying9,
  a26 := Tryz.isAgg9,
  z26 := Tryz.sizeOf9,
  v26 := Tryz.zeroValue9,
  t27 := Tryz.underlying222,
  a27 := Tryz.isAgg222,
  z27 := Tryz.sizeOf222,
  v27 := Tryz.zeroValue222,
  t28 := Tryz.underlying223,
  a28 := Tryz.isAgg223,
  z28 := Tryz.sizeOf223,
  v28 := Tryz.zeroValue223,
  t33 := Tryz.underlying214,
  a33 := Tryz.isAgg214,
  z33 := Tryz.sizeOf214,
  v33 := Tryz.zeroValue214}
def D0 : Go.Shelf.Ren := ⟨fun | 6 => 159 | 8 => 272 | 9 => 273 | 11 => 342 | 13 => 322 | 12 => 343 | 23 => 367 | 24 => 368 | 14 => 396 | 15 => 397 | 16 => 398 | 17 => 399 | 18 => 400 | 19 => 401 | 20 => 402 | 21 => 403 | 22 => 404 | 25 => 426 | 26 => 411 | 27 => 412 | 28 => 427 | 29 => 428 | 30 => 429 | 31 => 454 | n => n, fun | 26 => 9 | 28 => 223 | 24 => 82 | 0 => 0 | 3 => 3 | 37 => 353 | 48 => 389 | 50 => 309 | 4 => 4 | 40 => 383 | 39 => 382 | 45 => 39 | 5 => 5 | 9 => 9 | 51 => 419 | 55 => 423 | 57 => 446 | 58 => 274 | 33 => 214 | n => n, fun | n => n⟩
theorem D3 : Go.Proofs.SlLaysZ.n6 Tryz.prog D0 := {
  mixed := by kernel_rfl,
  f6 := ⟨Tryz.f159.name, by decide, Tryz.func159.trans (congrArg some (by kernel_rfl))⟩,
  f8 := ⟨Tryz.f272.name, by decide, Tryz.func272.trans (congrArg some (by kernel_rfl))⟩,
  f11 := ⟨Tryz.f342.name, by decide, Tryz.func342.trans (congrArg some (by kernel_rfl))⟩,
  t0 := Tryz.underlying0,
  a0 := Tryz.isAgg0,
  z0 := Tryz.sizeOf0,
  v0 := Tryz.zeroValue0,
  t24 := Tryz.underlying82,
  a24 := Tryz.isAgg82,
  z24 := Tryz.sizeOf82,
  v24 := Tryz.zeroValue82,
  t26 := Tryz.underlying9,
  a26 := Tryz.isAgg9,
  z26 := Tryz.sizeOf9,
  v26 := Tryz.zeroValue9,
  t28 := Tryz.underlying223,
  a28 := Tryz.isAgg223,
  z28 := Tryz.sizeOf223,
  v28 := Tryz.zeroValue223,
  i26 := by kernel_rfl}
end Go.Proofs.YtmlncblocfcmiaaGreat
namespace Go.Proofs.YtmlncblocfcmiaaGreat
open Go.RowKit
set_option maxRecDepth 10000
structure Role where
  Owner : ByteArray
  Word : ByteArray
def aO (x : Role) : List Value := [.string x.Owner, .string x.Word]
def bF (x y : Role) : Bool := (eT x.Owner y.Owner) && ((eT x.Word y.Word) && true)
theorem bA {x y : Role} : bF x y = true ↔ x = y := by
  cases x; cases y; simp [bF, fT]
theorem rQ (x : Role) : (aO x).length = 2 := rfl
theorem oC (x : Role) : ∀ u ∈ aO x, u.oneCell' = true := by
  intro u hu
  simp only [aO, List.mem_cons, List.not_mem_nil, or_false] at hu
  rcases hu with rfl | rfl <;> rfl
structure Cred where
  Kind : Int
  Head : Role
  Who : ByteArray
  B : Role
  C : Role
  Word2 : ByteArray
def aJ (x : Cred) : List Value := [.int .i64 x.Kind, .string x.Head.Owner, .string x.Head.Word, .string x.Who, .string x.B.Owner, .string x.B.Word, .string x.C.Owner, .string x.C.Word, .string x.Word2]
def bG (x y : Cred) : Bool := (x.Kind == y.Kind) && ((bF x.Head y.Head) && ((eT x.Who y.Who) && ((bF x.B y.B) && ((bF x.C y.C) && ((eT x.Word2 y.Word2) && true)))))
theorem cL {x y : Cred} : bG x y = true ↔ x = y := by
  cases x; cases y; simp [bG, fT, bA]
theorem bV (x : Cred) : (aJ x).length = 9 := rfl
theorem gC (x : Cred) : ∀ u ∈ aJ x, u.oneCell' = true := by
  intro u hu
  simp only [aJ, List.mem_cons, List.not_mem_nil, or_false] at hu
  rcases hu with rfl | rfl | rfl | rfl | rfl | rfl | rfl | rfl | rfl <;> rfl
structure aZ where
  Role : Role
  Who : ByteArray
def cZ (x : aZ) : List Value := [.string x.Role.Owner, .string x.Role.Word, .string x.Who]
theorem ph (x : aZ) : (cZ x).length = 3 := rfl
theorem zY (x : aZ) : ∀ u ∈ cZ x, u.oneCell' = true := by
  intro u hu
  simp only [cZ, List.mem_cons, List.not_mem_nil, or_false] at hu
  rcases hu with rfl | rfl | rfl <;> rfl
structure iU where
  at0 : Int
  at1 : Int
def wq (x : iU) : List Value := [.int .i64 x.at0, .int .i64 x.at1]
structure bK where
  e : Int
def cK (x : bK) : List Value := [.int .i64 x.e]
structure Key where
  Who : ByteArray
  Key : List Int
structure Signed where
  Cred : Cred
  Tag : List Int
structure Formula where
  Op : Int
  K : Int
  Role : Role
  Kids : List Formula
structure aV where
  Signed : Signed
  Release : Formula
structure eS where
  Role : Role
  Release : Formula
  Closure : List Cred
structure bT where
  Name : ByteArray
  Creds : List aV
  Acks : List eS
structure eW where
  Owner : bT
  Client : bT
  Formula : Formula
  Plan : Int
  Rooms : iU
  Timeout : Int
  Tries : Int
  Budget : Int
  Keys : List Key
noncomputable def fS (a0 : ByteArray) (a1 : Int) : Option Int :=
  some (nM a0 a1)
noncomputable def iW (a0 : ByteArray) (a1 : Int) : Option Int :=
  (((fS a0 a1)).bind fun r1 => some r1)
noncomputable def ke  : List Int → Option Bool
  | [] => some true
  | x43 :: xs44 => (((iW ((⟨#[97, 98, 99, 100, 101, 102, 103, 104, 105, 106, 107, 108, 109, 110, 111, 112, 113, 114, 115, 116, 117, 118, 119, 120, 121, 122, 48, 49, 50, 51, 52, 53, 54, 55, 56, 57, 45]⟩ : ByteArray)) x43)).bind fun r70 => (if (decide (r70 < 0)) then some false else (ke xs44)))
noncomputable def pv (a0 : ByteArray) : Option Bool :=
  (((ru a0)).bind fun l1 => ke l1)
noncomputable def jG (a0 : ByteArray) : Option Bool :=
  (((if (decide (((a0.size : Int)) ≥ 1)) then some ((decide (((a0.size : Int)) ≤ 16))) else some false) : Option Bool).bind fun x2 => (((if x2 then (((vn a0 0)).bind fun c40 => (((iW ((⟨#[97, 98, 99, 100, 101, 102, 103, 104, 105, 106, 107, 108, 109, 110, 111, 112, 113, 114, 115, 116, 117, 118, 119, 120, 121, 122]⟩ : ByteArray)) ((c40.toNat : Int)))).bind fun r42 => some ((decide (r42 ≥ 0))))) else some false) : Option Bool).bind fun x14 => (((if x14 then (((pv a0)).bind fun r33 => some r33) else some false) : Option Bool).bind fun x24 => some x24)))
noncomputable def lH (a0 : List Int) : Option (List Int) :=
  (((gT 1 ([]) a0)).bind fun l8 => some l8)
noncomputable def iF (a0 : Role) : Option Bool :=
  (((jG a0.Owner)).bind fun r3 => (((if r3 then (((jG a0.Word)).bind fun r19 => some r19) else some false) : Option Bool).bind fun x10 => some x10))
noncomputable def gV (a0 : ByteArray) (a1 : ByteArray) : Option Int :=
  some (lY a0 a1)
noncomputable def kK (a0 : ByteArray) (a1 : ByteArray) : Option Int :=
  (((gV a0 a1)).bind fun r1 => some r1)
noncomputable def kB  : List Int → Option Int
  | [] => some 0
  | x27 :: xs28 => (if (x27 != 0) then some x27 else (kB xs28))
noncomputable def oI (a0 : List Int) : Option Int :=
  kB a0
noncomputable def mo (a0 : Role) (a1 : Role) : Option Int :=
  (((kK a0.Owner a1.Owner)).bind fun r27 => (((kK a0.Word a1.Word)).bind fun r30 => (((oI ([r27, r30]))).bind fun r35 => some r35)))
noncomputable def ku (a0 : Cred) : Option Bool :=
  (((iF a0.Head)).bind fun r6 => (((if (a0.Kind == 1) then (((if r6 then (((jG a0.Who)).bind fun r330 => some r330) else some false) : Option Bool).bind fun x316 => some (Sum.inr (x316, ((⟨a0.Kind, a0.Head, a0.Who, (⟨zS, zS⟩ : Role), (⟨zS, zS⟩ : Role), zS⟩ : Cred))))) else (if (a0.Kind == 2) then (((if r6 then (((iF a0.B)).bind fun r393 => some r393) else some false) : Option Bool).bind fun x379 => some (Sum.inr (x379, ((⟨a0.Kind, a0.Head, zS, a0.B, (⟨zS, zS⟩ : Role), zS⟩ : Cred))))) else (if (a0.Kind == 3) then (((if r6 then (((iF a0.B)).bind fun r448 => some r448) else some false) : Option Bool).bind fun x407 => (((if x407 then some ((eT a0.B.Owner a0.Head.Owner)) else some false) : Option Bool).bind fun x415 => (((if x415 then (((jG a0.Word2)).bind fun r437 => some r437) else some false) : Option Bool).bind fun x426 => some (Sum.inr (x426, ((⟨a0.Kind, a0.Head, zS, a0.B, (⟨zS, zS⟩ : Role), a0.Word2⟩ : Cred))))))) else (if (a0.Kind == 4) then (((if r6 then (((iF a0.B)).bind fun r509 => some r509) else some false) : Option Bool).bind fun x462 => (((if x462 then (((iF a0.C)).bind fun r502 => some r502) else some false) : Option Bool).bind fun x473 => (((if x473 then (((mo a0.B a0.C)).bind fun r495 => some ((decide (r495 < 0)))) else some false) : Option Bool).bind fun x484 => some (Sum.inr (x484, ((⟨a0.Kind, a0.Head, zS, a0.B, a0.C, zS⟩ : Cred))))))) else some (Sum.inl false))))) : Option ((Bool ⊕ ((Bool × Cred))))).bind fun s => match s with | .inl q512 => some q512 | .inr (x251, x252) => (((if x251 then some ((bG x252 a0)) else some false) : Option Bool).bind fun x259 => some x259)))
noncomputable def gY  : Nat → Int → (List Int) → Option ((Bool × (List Int)))
  | 0, _, _ => none
  | n93 + 1, x67, l69 => (if (decide (x67 ≥ 128)) then (((gT 1 l69 ([(IntKind.u8.wrap (BitVec.ofInt (IntKind.bits .u8) ((IntKind.u8.wrap x67)) ||| BitVec.ofInt (IntKind.bits .u8) 128).toNat)]))).bind fun l99 => (gY n93 ((Int.fdiv x67 (2 ^ min (Int.toNat 7) (IntKind.bits .i64)))) l99)) else (((gT 1 l69 ([(IntKind.u8.wrap x67)]))).bind fun l110 => some (true, l110)))
noncomputable def fU (a0_b : List Int) (a1 : Int) : Option ((Bool × (List Int))) :=
  (if (decide (a1 < 0)) then some (false, a0_b) else gY bR a1 a0_b)
noncomputable def ml (a0_b : List Int) (a1 : List Int) : Option ((Bool × (List Int))) :=
  (if (decide (((a1.length : Int)) > 2048)) then some (false, a0_b) else (((fU a0_b ((a1.length : Int)))).bind fun r2 => (((gT 1 r2.2 a1)).bind fun l15 => some (true, l15))))
noncomputable def kw (a0_b : List Int) (a1 : ByteArray) : Option ((Bool × (List Int))) :=
  (((jG a1)).bind fun r1 => (((if r1 then (((ru a1)).bind fun l42 => (((ml a0_b l42)).bind fun r51 => some (r51.1, r51.2))) else some (false, a0_b)) : Option ((Bool × (List Int)))).bind fun (x28, l30) => some (x28, l30)))
noncomputable def iG (a0_b : List Int) (a1 : Role) : Option ((Bool × (List Int))) :=
  (((iF a1)).bind fun r3 => (((if r3 then (((kw a0_b a1.Owner)).bind fun r79 => some (r79.1, r79.2)) else some (false, a0_b)) : Option ((Bool × (List Int)))).bind fun (x21, l23) => (((if x21 then (((kw l23 a1.Word)).bind fun r62 => some (r62.1, r62.2)) else some (false, l23)) : Option ((Bool × (List Int)))).bind fun (x48, l50) => some (x48, l50))))
noncomputable def ki (a0_b : List Int) : Option (List Int) :=
  (((lH a0_b)).bind fun r4 => some r4)
noncomputable def mt (a0 : Cred) : Option (List Int) :=
  (((ku a0)).bind fun r3 => (if (!r3) then some [] else (((fU ([]) a0.Kind)).bind fun r9 => (((iG r9.2 a0.Head)).bind fun r22 => (((if (a0.Kind == 1) then (((kw r22.2 a0.Who)).bind fun r139 => some r139.2) else (if (a0.Kind == 2) then (((iG r22.2 a0.B)).bind fun r153 => some r153.2) else (if (a0.Kind == 3) then (((iG r22.2 a0.B)).bind fun r167 => (((kw r167.2 a0.Word2)).bind fun r180 => some r180.2)) else (if (a0.Kind == 4) then (((iG r22.2 a0.B)).bind fun r194 => (((iG r194.2 a0.C)).bind fun r207 => some r207.2)) else some r22.2)))) : Option (List Int)).bind fun l119 => (((ki l119)).bind fun r126 => some r126))))))
noncomputable def ic (a0 : List Cred) : Option (List Cred) :=
  (((gT 136 ([]) a0)).bind fun l8 => some l8)
noncomputable def eY (f1 : Cred → Option Bool) : List Cred → Nat → Option Int
  | [], _ => some (-1)
  | x36 :: xs37, i35 => (((f1 x36)).bind fun r65 => (if r65 then some (i35 : Int) else (eY f1 xs37 (i35 + 1))))
noncomputable def jU (a0 : List Cred) (f1 : Cred → Option Bool) : Option Int :=
  eY f1 a0 0
noncomputable def eV (f1 : Cred → Option Bool) : Nat → (List Cred) → Int → Int → Option (List Cred)
  | 0, _, _, _ => none
  | n321 + 1, l249, x252, x253 => (if (decide (x253 < ((l249.length : Int)))) then (((((dS l249 x253)).bind fun x364 => (((f1 x364)).bind fun r369 => (if (!r369) then (((dS l249 x252)).bind fun x376 => some (((l249.set (Int.toNat x252) x364)), ((IntKind.i64.wrap (x252 + 1))))) else some (l249, x252)))) : Option (((List Cred) × Int))).bind fun (l348, x351) => (eV f1 n321 l348 x351 ((IntKind.i64.wrap (x253 + 1))))) else (((lE (decide (0 ≤ x252) && decide (x252 ≤ (l249.length : Int))))).bind fun _ => (((lE (decide (0 ≤ x252) && decide (x252 ≤ (((gW l249 (Int.toNat x252) (⟨0, (⟨zS, zS⟩ : Role), zS, (⟨zS, zS⟩ : Role), (⟨zS, zS⟩ : Role), zS⟩ : Cred))).length : Int))))).bind fun _ => some (((gW l249 (Int.toNat x252) (⟨0, (⟨zS, zS⟩ : Role), zS, (⟨zS, zS⟩ : Role), (⟨zS, zS⟩ : Role), zS⟩ : Cred))).take (Int.toNat x252)))))
noncomputable def fR (a0 : List Cred) (f1 : Cred → Option Bool) : Option (List Cred) :=
  (((jU a0 f1)).bind fun r1 => (if (r1 == ((-1))) then some a0 else eV f1 bR a0 r1 ((IntKind.i64.wrap (r1 + 1)))))
noncomputable def mV (a0 : Cred) : Option Bool :=
  (((ku a0)).bind fun r3 => some (!r3))
noncomputable def lN (a0 : List Int) (a1 : List Int) : Option Int :=
  some (oA a0 a1)
noncomputable def kg (a0 : Cred) (a1 : Cred) : Option Int :=
  (((mt a0)).bind fun r47 => (((mt a1)).bind fun r56 => (((lN r47 r56)).bind fun r65 => some r65)))
noncomputable def fM (x2891 : Int) : Nat → (List Cred) → Int → Int → Option (((List Cred) × Int))
  | 0, _, _, _ => none
  | n4232 + 1, l4112, x4115, x4116 => (if (decide (x4116 < (((l4112.length - (Int.toNat x2891) : Nat) : Int)))) then (((((dS (l4112.drop (Int.toNat x2891)) x4116)).bind fun x4319 => (((dS (l4112.drop (Int.toNat x2891)) ((IntKind.i64.wrap (x4116 - 1))))).bind fun x4324 => (if (!(bG x4319 x4324)) then (((dS (l4112.drop (Int.toNat x2891)) x4116)).bind fun x4330 => (((dS l4112 x4115)).bind fun x4335 => some (((l4112.set (Int.toNat x4115) x4330)), ((IntKind.i64.wrap (x4115 + 1)))))) else some (l4112, x4115)))) : Option (((List Cred) × Int))).bind fun (l4283, x4286) => (fM x2891 n4232 l4283 x4286 ((IntKind.i64.wrap (x4116 + 1))))) else some (l4112, x4115))
noncomputable def fQ (a0 : List Cred) : Nat → Int → Option (List Cred)
  | 0, _ => none
  | n3617 + 1, x2891 => (if (decide (x2891 < ((a0.length : Int)))) then (((dS a0 x2891)).bind fun x3644 => (((dS a0 ((IntKind.i64.wrap (x2891 - 1))))).bind fun x3649 => (if (bG x3644 x3649) then (((lE (decide (0 ≤ x2891) && decide (x2891 ≤ (a0.length : Int))))).bind fun _ => ((fM x2891 bR a0 x2891 1 : Option (((List Cred) × Int))).bind fun (l3988, x3991) => (((lE (decide (0 ≤ x3991) && decide (x3991 ≤ (l3988.length : Int))))).bind fun _ => (((lE (decide (0 ≤ x3991) && decide (x3991 ≤ (((gW l3988 (Int.toNat x3991) (⟨0, (⟨zS, zS⟩ : Role), zS, (⟨zS, zS⟩ : Role), (⟨zS, zS⟩ : Role), zS⟩ : Cred))).length : Int))))).bind fun _ => some (((gW l3988 (Int.toNat x3991) (⟨0, (⟨zS, zS⟩ : Role), zS, (⟨zS, zS⟩ : Role), (⟨zS, zS⟩ : Role), zS⟩ : Cred))).take (Int.toNat x3991)))))) else (fQ a0 n3617 ((IntKind.i64.wrap (x2891 + 1))))))) else some a0)
noncomputable def jz (a0 : List Cred) : Option (List Cred) :=
  (if (decide (((a0.length : Int)) < 2)) then some a0 else fQ a0 bR 1)
noncomputable def lW (a0 : List Cred) : Option (List Cred) :=
  (((ic a0)).bind fun r1 => (((fR r1 (fun (x : Cred) => mV x))).bind fun r10 => (((qG (fun (x : (Cred × Cred)) => kg x.1 x.2) r10)).bind fun r23 => (((jz r23)).bind fun r35 => some r35))))
noncomputable def gy (a1 : Cred) : List Cred → Nat → Option Int
  | [], _ => some (-1)
  | x47 :: xs48, i46 => (if (bG a1 x47) then some (i46 : Int) else (gy a1 xs48 (i46 + 1)))
noncomputable def lD (a0 : List Cred) (a1 : Cred) : Option Int :=
  gy a1 a0 0
noncomputable def ja (a0 : List Cred) (a1 : Cred) : Option Bool :=
  (((lD a0 a1)).bind fun r3 => some (decide (r3 ≥ 0)))
noncomputable def jj (a0 : List Cred) (a1 : Cred) : Option Bool :=
  (((ja a0 a1)).bind fun r3 => some r3)
noncomputable def ny (a0 : Cred) : Option (List Role) :=
  (((ku a0)).bind fun r3 => (if (!r3) then some [] else (((if (a0.Kind != 1) then (((gT 32 ([a0.Head]) ([a0.B]))).bind fun l60 => some l60) else some ([a0.Head])) : Option (List Role)).bind fun l19 => (((if (a0.Kind == 4) then (((gT 32 l19 ([a0.C]))).bind fun l48 => some l48) else some l19) : Option (List Role)).bind fun l36 => some l36))))
noncomputable def eZ (a1 : Cred) (a0_words : List (ByteArray × (List Cred))) (l27 : List Cred) : List Role → (List (Role × (List Cred))) → Option (((List Cred) × (List (Role × (List Cred))) × (List (ByteArray × (List Cred)))))
  | [], l356 => (if (a1.Kind == 3) then (((gT 136 (((cG eT a0_words a1.Word2).getD [])) ([a1]))).bind fun l567 => some (l27, l356, (gG eT a0_words a1.Word2 l567))) else some (l27, l356, a0_words))
  | x281 :: xs282, l356 => (((gT 136 (((cG bF l356 x281).getD [])) ([a1]))).bind fun l498 => (eZ a1 a0_words l27 xs282 ((gG bF l356 x281 l498))))
noncomputable def jJ (a0_in_ : List (Role × (List (ByteArray × Bool)))) (a0_creds : List Cred) (a0_uses : List (Role × (List Cred))) (a0_words : List (ByteArray × (List Cred))) (a0_todo : List aZ) (a0_n : Int) (a1 : Cred) : Option (((List Cred) × (List (Role × (List Cred))) × (List (ByteArray × (List Cred))))) :=
  (((gT 136 a0_creds ([a1]))).bind fun l27 => (((ny a1)).bind fun r36 => (((lE (decide (0 ≤ 1) && decide (1 ≤ (r36.length : Int))))).bind fun _ => eZ a1 a0_words l27 ((r36.drop (Int.toNat 1))) a0_uses)))
noncomputable def fE (a0_in_ : List (Role × (List (ByteArray × Bool)))) (a0_creds : List Cred) (a0_uses : List (Role × (List Cred))) (a0_words : List (ByteArray × (List Cred))) (a0_todo : List aZ) (a0_n : Int) (a1 : Role) (a2 : ByteArray) : Option (((List (Role × (List (ByteArray × Bool)))) × (List aZ) × Int)) :=
  (if (pw eT (((cG bF a0_in_ a1).getD [])) a2 false) then some (a0_in_, a0_todo, a0_n) else (((if (cG bF a0_in_ a1).isNone then (((vm bF a0_in_ a1 ([]))).bind fun l131 => some l131) else some a0_in_) : Option (List (Role × (List (ByteArray × Bool))))).bind fun l38 => (((vj bF eT l38 a1 a2 true)).bind fun l66 => (((gT 48 a0_todo ([(⟨a1, a2⟩ : aZ)]))).bind fun l96 => some (l66, l96, (IntKind.i64.wrap (a0_n + 1)))))))
noncomputable def fI (a0 : List (ByteArray × Bool)) : Option Unit :=
  some ()
noncomputable def iv (a0_in_ : List (Role × (List (ByteArray × Bool)))) (a0_creds : List Cred) (a0_uses : List (Role × (List Cred))) (a0_words : List (ByteArray × (List Cred))) (a0_todo : List aZ) (a0_n : Int) (a1 : Role) : Option (List ByteArray) :=
  (((fI (((cG bF a0_in_ a1).getD [])))).bind fun r64 => (((wr (((cG bF a0_in_ a1).getD [])))).bind fun r75 => some r75))
noncomputable def gz (a0_creds : List Cred) (a0_uses : List (Role × (List Cred))) (a0_words : List (ByteArray × (List Cred))) (a2 : Role) : List ByteArray → (List (Role × (List (ByteArray × Bool)))) → (List aZ) → Int → Option (((List (Role × (List (ByteArray × Bool)))) × (List aZ) × Int))
  | [], l129, l133, x136 => some (l129, l133, x136)
  | x104 :: xs105, l129, l133, x136 => (((fE l129 a0_creds a0_uses a0_words l133 x136 a2 x104)).bind fun r177 => (gz a0_creds a0_uses a0_words a2 xs105 r177.1 r177.2.1 r177.2.2))
noncomputable def jX (a0_in_ : List (Role × (List (ByteArray × Bool)))) (a0_creds : List Cred) (a0_uses : List (Role × (List Cred))) (a0_words : List (ByteArray × (List Cred))) (a0_todo : List aZ) (a0_n : Int) (a1 : Role) (a2 : Role) : Option (((List (Role × (List (ByteArray × Bool)))) × (List aZ) × Int)) :=
  (((iv a0_in_ a0_creds a0_uses a0_words a0_todo a0_n a1)).bind fun r5 => gz a0_creds a0_uses a0_words a2 r5 a0_in_ a0_todo a0_n)
noncomputable def iV (a0_in_ : List (Role × (List (ByteArray × Bool)))) (a0_creds : List Cred) (a0_uses : List (Role × (List Cred))) (a0_words : List (ByteArray × (List Cred))) (a0_todo : List aZ) (a0_n : Int) (a1 : Cred) (a2 : aZ) : Option (((List (Role × (List (ByteArray × Bool)))) × (List aZ) × Int)) :=
  (if (a1.Kind == 2) then (((fE a0_in_ a0_creds a0_uses a0_words a0_todo a0_n a1.Head a2.Who)).bind fun r6 => some (r6.1, r6.2.1, r6.2.2)) else (if (a1.Kind == 3) then (((jX a0_in_ a0_creds a0_uses a0_words a0_todo a0_n ((⟨a2.Who, a1.Word2⟩ : Role)) a1.Head)).bind fun r22 => some (r22.1, r22.2.1, r22.2.2)) else (if (a1.Kind == 4) then (((if (pw eT (((cG bF a0_in_ a1.B).getD [])) a2.Who false) then some ((pw eT (((cG bF a0_in_ a1.C).getD [])) a2.Who false)) else some false) : Option Bool).bind fun x69 => (if x69 then (((fE a0_in_ a0_creds a0_uses a0_words a0_todo a0_n a1.Head a2.Who)).bind fun r77 => some (r77.1, r77.2.1, r77.2.2)) else some (a0_in_, a0_todo, a0_n))) else some (a0_in_, a0_todo, a0_n))))
noncomputable def fP (a0_creds : List Cred) (a0_uses : List (Role × (List Cred))) (a0_words : List (ByteArray × (List Cred))) (a1 : Cred) : List ByteArray → (List (Role × (List (ByteArray × Bool)))) → (List aZ) → Int → Option (((List (Role × (List (ByteArray × Bool)))) × (List aZ) × Int))
  | [], l143, l147, x150 => some (l143, l147, x150)
  | x118 :: xs119, l143, l147, x150 => (((iV l143 a0_creds a0_uses a0_words l147 x150 a1 ((⟨a1.B, x118⟩ : aZ)))).bind fun r191 => (fP a0_creds a0_uses a0_words a1 xs119 r191.1 r191.2.1 r191.2.2))
noncomputable def jt (a0_in_ : List (Role × (List (ByteArray × Bool)))) (a0_creds : List Cred) (a0_uses : List (Role × (List Cred))) (a0_words : List (ByteArray × (List Cred))) (a0_todo : List aZ) (a0_n : Int) (a1 : Cred) : Option (((List (Role × (List (ByteArray × Bool)))) × (List aZ) × Int)) :=
  (if (a1.Kind == 1) then (((fE a0_in_ a0_creds a0_uses a0_words a0_todo a0_n a1.Head a1.Who)).bind fun r4 => some (r4.1, r4.2.1, r4.2.2)) else (((iv a0_in_ a0_creds a0_uses a0_words a0_todo a0_n a1.B)).bind fun r19 => fP a0_creds a0_uses a0_words a1 r19 a0_in_ a0_todo a0_n))
noncomputable def eL (x2615 : aZ) (a0_creds : List Cred) (a0_uses : List (Role × (List Cred))) (a0_words : List (ByteArray × (List Cred))) : List Cred → (List (Role × (List (ByteArray × Bool)))) → (List aZ) → Int → Option (((List (Role × (List (ByteArray × Bool)))) × (List aZ) × Int))
  | [], l2939, l2943, x2946 => some (l2939, l2943, x2946)
  | x2904 :: xs2905, l2939, l2943, x2946 => (if (pw eT (((cG bF l2939 x2904.B).getD [])) x2615.Role.Owner false) then (((fE l2939 a0_creds a0_uses a0_words l2943 x2946 x2904.Head x2615.Who)).bind fun r3007 => (eL x2615 a0_creds a0_uses a0_words xs2905 r3007.1 r3007.2.1 r3007.2.2)) else (eL x2615 a0_creds a0_uses a0_words xs2905 l2939 l2943 x2946))
noncomputable def fF (a0_creds : List Cred) (a0_uses : List (Role × (List Cred))) (a0_words : List (ByteArray × (List Cred))) (x2615 : aZ) : List Cred → (List (Role × (List (ByteArray × Bool)))) → (List aZ) → Int → Option (((List (Role × (List (ByteArray × Bool)))) × (List aZ) × Int))
  | [], l3054, l3058, x3061 => some (l3054, l3058, x3061)
  | x3026 :: xs3027, l3054, l3058, x3061 => (((iV l3054 a0_creds a0_uses a0_words l3058 x3061 x3026 x2615)).bind fun r3108 => (fF a0_creds a0_uses a0_words x2615 xs3027 r3108.1 r3108.2.1 r3108.2.2))
noncomputable def eO (a0_creds : List Cred) (a0_uses : List (Role × (List Cred))) (a0_words : List (ByteArray × (List Cred))) : Nat → (List (Role × (List (ByteArray × Bool)))) → (List aZ) → Int → Option (((List (Role × (List (ByteArray × Bool)))) × (List aZ) × Int))
  | 0, _, _, _ => none
  | n2608 + 1, l2075, l2079, x2082 => (if (decide (((l2079.length : Int)) > 0)) then (((dS l2079 0)).bind fun x2615 => (((lE (decide (0 ≤ 1) && decide (1 ≤ (l2079.length : Int))))).bind fun _ => ((fF a0_creds a0_uses a0_words x2615 (((cG bF a0_uses x2615.Role).getD [])) l2075 ((l2079.drop (Int.toNat 1))) x2082 : Option (((List (Role × (List (ByteArray × Bool)))) × (List aZ) × Int))).bind fun (l2740, l2744, x2747) => ((eL x2615 a0_creds a0_uses a0_words (((cG eT a0_words x2615.Role.Word).getD [])) l2740 l2744 x2747 : Option (((List (Role × (List (ByteArray × Bool)))) × (List aZ) × Int))).bind fun (l2888, l2892, x2895) => (eO a0_creds a0_uses a0_words n2608 l2888 l2892 x2895))))) else some (l2075, l2079, x2082))
noncomputable def km (a0_in_ : List (Role × (List (ByteArray × Bool)))) (a0_creds : List Cred) (a0_uses : List (Role × (List Cred))) (a0_words : List (ByteArray × (List Cred))) (a0_todo : List aZ) (a0_n : Int) : Option (((List (Role × (List (ByteArray × Bool)))) × (List aZ) × Int)) :=
  eO a0_creds a0_uses a0_words bR a0_in_ a0_todo a0_n
noncomputable def eU (a0_n : Int) : List Cred → (List (Role × (List (ByteArray × Bool)))) → (List Cred) → (List (Role × (List Cred))) → (List (ByteArray × (List Cred))) → (List aZ) → Int → Option ((Int × (List (Role × (List (ByteArray × Bool)))) × (List Cred) × (List (Role × (List Cred))) × (List (ByteArray × (List Cred))) × (List aZ) × Int))
  | [], l508, l512, l515, l518, l522, x525 => (((km l508 l512 l515 l518 l522 x525)).bind fun r777 => some ((IntKind.i64.wrap (r777.2.2 - a0_n)), r777.1, l512, l515, l518, r777.2.1, r777.2.2))
  | x390 :: xs391, l508, l512, l515, l518, l522, x525 => (((ku x390)).bind fun r720 => (((if r720 then (((jj l512 x390)).bind fun r774 => some ((!r774))) else some false) : Option Bool).bind fun x727 => (if x727 then (((jJ l508 l512 l515 l518 l522 x525 x390)).bind fun r738 => (((jt l508 r738.1 r738.2.1 r738.2.2 l522 x525 x390)).bind fun r755 => (eU a0_n xs391 r755.1 r738.1 r738.2.1 r738.2.2 r755.2.1 r755.2.2))) else (eU a0_n xs391 l508 l512 l515 l518 l522 x525))))
noncomputable def jW (a0_in_ : List (Role × (List (ByteArray × Bool)))) (a0_creds : List Cred) (a0_uses : List (Role × (List Cred))) (a0_words : List (ByteArray × (List Cred))) (a0_todo : List aZ) (a0_n : Int) (a1 : List Cred) : Option ((Int × (List (Role × (List (ByteArray × Bool)))) × (List Cred) × (List (Role × (List Cred))) × (List (ByteArray × (List Cred))) × (List aZ) × Int)) :=
  eU a0_n a1 a0_in_ a0_creds a0_uses a0_words a0_todo a0_n
noncomputable def oN (a0 : List Cred) : Option (((List (Role × (List (ByteArray × Bool)))) × (List Cred) × (List (Role × (List Cred))) × (List (ByteArray × (List Cred))) × (List aZ) × Int)) :=
  (((jW ([]) ([]) ([]) ([]) ([]) 0 a0)).bind fun r18 => some (r18.2.1, r18.2.2.1, r18.2.2.2.1, r18.2.2.2.2.1, r18.2.2.2.2.2.1, r18.2.2.2.2.2.2))
noncomputable def mP (a0_in_ : List (Role × (List (ByteArray × Bool)))) (a0_creds : List Cred) (a0_uses : List (Role × (List Cred))) (a0_words : List (ByteArray × (List Cred))) (a0_todo : List aZ) (a0_n : Int) (a1 : Role) (a2 : ByteArray) : Option Bool :=
  some (pw eT (((cG bF a0_in_ a1).getD [])) a2 false)
noncomputable def jk  : List Cred → Int → Option Int
  | [], x47 => some x47
  | x35 :: xs36, x47 => (jk xs36 ((IntKind.i64.wrap (x47 + ((IntKind.i64.wrap (((IntKind.i64.wrap (((IntKind.i64.wrap (((IntKind.i64.wrap (((IntKind.i64.wrap (((IntKind.i64.wrap (((IntKind.i64.wrap (((IntKind.i64.wrap (20 + ((x35.Head.Owner.size : Int))))) + ((x35.Head.Word.size : Int))))) + ((x35.Who.size : Int))))) + ((x35.B.Owner.size : Int))))) + ((x35.B.Word.size : Int))))) + ((x35.C.Owner.size : Int))))) + ((x35.C.Word.size : Int))))) + ((x35.Word2.size : Int)))))))))
noncomputable def na (a0 : List Cred) : Option Int :=
  jk a0 0
noncomputable def jl  : List Signed → Int → Option Int
  | [], x224 => some x224
  | x193 :: xs194, x224 => (((na ([x193.Cred]))).bind fun r279 => (jl xs194 ((IntKind.i64.wrap (x224 + ((IntKind.i64.wrap (r279 + ((x193.Tag.length : Int))))))))))
noncomputable def iw (a1 : List Signed) : List Key → Int → Option Int
  | [], x65 => ((jl a1 x65 : Option Int).bind fun x185 => some x185)
  | x49 :: xs50, x65 => (iw a1 xs50 ((IntKind.i64.wrap (x65 + ((IntKind.i64.wrap (((IntKind.i64.wrap (10 + ((x49.Who.size : Int))))) + ((x49.Key.length : Int)))))))))
noncomputable def mQ (a0 : List Key) (a1 : List Signed) : Option Int :=
  iw a1 a0 0
noncomputable def ld (a1 : Cred) : List Cred → Option Bool
  | [] => some false
  | x38 :: xs39 => (if (bG x38 a1) then some true else (ld a1 xs39))
noncomputable def kX (a0 : List Cred) (a1 : Cred) : Option Bool :=
  ld a1 a0
noncomputable def gx (a0 : Cred) (a1 : Role) : Option (List aV) :=
  (((uj 1 0 8)).bind fun l33 => some [(⟨(⟨a0, l33⟩ : Signed), (⟨1, 0, a1, []⟩ : Formula)⟩ : aV)])
noncomputable def jw  : List aV → (List Cred) → Option (List Cred)
  | [], l124 => (((lW l124)).bind fun r181 => some r181)
  | x95 :: xs96, l124 => (((gT 136 l124 ([x95.Signed.Cred]))).bind fun l175 => (jw xs96 l175))
noncomputable def nh (a0 : bT) : Option (List Cred) :=
  jw a0.Creds ([])
noncomputable def nz (a0 : List Cred) (a1 : ByteArray) : Option (((List (Role × (List (ByteArray × Bool)))) × (List Cred) × (List (Role × (List Cred))) × (List (ByteArray × (List Cred))) × (List aZ) × Int × ByteArray)) :=
  (((oN a0)).bind fun r3 => some (r3.1, r3.2.1, r3.2.2.1, r3.2.2.2.1, r3.2.2.2.2.1, r3.2.2.2.2.2, a1))
noncomputable def eA (f1 : aV → Option Bool) : List aV → Nat → Option Int
  | [], _ => some (-1)
  | x48 :: xs49, i47 => (((f1 x48)).bind fun r89 => (if r89 then some (i47 : Int) else (eA f1 xs49 (i47 + 1))))
noncomputable def eC (a0 : List aV) (f1 : aV → Option Bool) : Option Int :=
  eA f1 a0 0
noncomputable def lU (a0 : aV) (c0 : Cred) : Option Bool :=
  some (bG a0.Signed.Cred c0)
noncomputable def nB (a0 : bT) (a1 : Cred) : Option ((aV × Bool)) :=
  (((eC a0.Creds (fun (x : aV) => lU x a1))).bind fun r11 => (if (decide (r11 < 0)) then some ((⟨(⟨(⟨0, (⟨zS, zS⟩ : Role), zS, (⟨zS, zS⟩ : Role), (⟨zS, zS⟩ : Role), zS⟩ : Cred), []⟩ : Signed), (⟨0, 0, (⟨zS, zS⟩ : Role), []⟩ : Formula)⟩ : aV), false) else (((dS a0.Creds r11)).bind fun x20 => some (x20, true))))
noncomputable def lK (a0 : List eS) : Option (List eS) :=
  (((gT 128 ([]) a0)).bind fun l8 => some l8)
noncomputable def eM (f1 : eS → Option Bool) : List eS → Nat → Option Int
  | [], _ => some (-1)
  | x48 :: xs49, i47 => (((f1 x48)).bind fun r89 => (if r89 then some (i47 : Int) else (eM f1 xs49 (i47 + 1))))
noncomputable def kl (a0 : List eS) (f1 : eS → Option Bool) : Option Int :=
  eM f1 a0 0
noncomputable def eX (f1 : eS → Option Bool) : Nat → (List eS) → Int → Int → Option (List eS)
  | 0, _, _, _ => none
  | n465 + 1, l365, x368, x369 => (if (decide (x369 < ((l365.length : Int)))) then (((((dS l365 x369)).bind fun x522 => (((f1 x522)).bind fun r536 => (if (!r536) then (((dS l365 x368)).bind fun x543 => some (((l365.set (Int.toNat x368) x522)), ((IntKind.i64.wrap (x368 + 1))))) else some (l365, x368)))) : Option (((List eS) × Int))).bind fun (l506, x509) => (eX f1 n465 l506 x509 ((IntKind.i64.wrap (x369 + 1))))) else (((lE (decide (0 ≤ x368) && decide (x368 ≤ (l365.length : Int))))).bind fun _ => (((lE (decide (0 ≤ x368) && decide (x368 ≤ (((gW l365 (Int.toNat x368) (⟨(⟨zS, zS⟩ : Role), (⟨0, 0, (⟨zS, zS⟩ : Role), []⟩ : Formula), []⟩ : eS))).length : Int))))).bind fun _ => some (((gW l365 (Int.toNat x368) (⟨(⟨zS, zS⟩ : Role), (⟨0, 0, (⟨zS, zS⟩ : Role), []⟩ : Formula), []⟩ : eS))).take (Int.toNat x368)))))
noncomputable def iL (a0 : List eS) (f1 : eS → Option Bool) : Option (List eS) :=
  (((kl a0 f1)).bind fun r1 => (if (r1 == ((-1))) then some a0 else eX f1 bR a0 r1 ((IntKind.i64.wrap (r1 + 1)))))
noncomputable def jq (a0 : eS) (c0 : Cred) : Option Bool :=
  (((jj a0.Closure c0)).bind fun r7 => some (!r7))
noncomputable def nc (a0 : bT) (a1 : Cred) : Option (List eS) :=
  (((lK a0.Acks)).bind fun r9 => (((iL r9 (fun (x : eS) => jq x a1))).bind fun r27 => some r27))
noncomputable def gu (a1 : Int) (rec : Formula → Int → Option ((Int × Int))) : List Formula → Int → Int → Option ((Int × Int))
  | [], x98, x99 => some (x98, x99)
  | x78 :: xs79, x98, x99 => (if (decide (x98 > a1)) then some (x98, x99) else (((rec x78 ((IntKind.i64.wrap (a1 - x98))))).bind fun r137 => (gu a1 rec xs79 ((IntKind.i64.wrap (x98 + r137.1))) ((if r137.2 > x99 then r137.2 else x99)))))
noncomputable def kQ (rec : Formula → Int → Option ((Int × Int))) (a0 : Formula) (a1 : Int) : Option ((Int × Int)) :=
  ((gu a1 rec a0.Kids 1 0 : Option ((Int × Int))).bind fun (x68, x69) => some (x68, (IntKind.i64.wrap (x69 + 1))))
noncomputable def gM : Nat → Formula → Int → Option ((Int × Int))
  | 0 => fun _ _ => none
  | n + 1 => kQ (gM n)
noncomputable def mw (a0 : Formula) : Option ((Int × Int)) :=
  (((gM bR a0 4096)).bind fun r5 => (if (decide (r5.1 > 4096)) then some (0, 0) else some (r5.1, r5.2)))
noncomputable def mz (a0 : Formula) : Option Bool :=
  (if (a0.Op == 1) then (((iF a0.Role)).bind fun r55 => (((if r55 then some ((((a0.Kids.length : Int)) == 0)) else some false) : Option Bool).bind fun x59 => (((if x59 then some ((a0.K == 0)) else some false) : Option Bool).bind fun x66 => some x66))) else (((if (a0.Op == 2) then some ((a0.Op == 2)) else some ((a0.Op == 3))) : Option Bool).bind fun x80 => (if x80 then (((if (bF a0.Role ((⟨zS, zS⟩ : Role))) then some ((a0.K == 0)) else some false) : Option Bool).bind fun x88 => some x88) else (((if (a0.Op == 4) then some ((bF a0.Role ((⟨zS, zS⟩ : Role)))) else some false) : Option Bool).bind fun x97 => (((if x97 then some ((decide (a0.K ≥ 0))) else some false) : Option Bool).bind fun x103 => (((if x103 then some ((decide (a0.K ≤ ((a0.Kids.length : Int))))) else some false) : Option Bool).bind fun x109 => (((if x109 then some ((decide (((a0.Kids.length : Int)) ≥ 1))) else some false) : Option Bool).bind fun x115 => some x115)))))))
noncomputable def eB (f1 : Formula → Option Bool) : List Formula → Nat → Option Int
  | [], _ => some (-1)
  | x42 :: xs43, i41 => (((f1 x42)).bind fun r77 => (if r77 then some (i41 : Int) else (eB f1 xs43 (i41 + 1))))
noncomputable def jf (a0 : List Formula) (f1 : Formula → Option Bool) : Option Int :=
  eB f1 a0 0
noncomputable def fB (a0 : List Formula) (f1 : Formula → Option Bool) : Option Bool :=
  (((jf a0 f1)).bind fun r1 => some (decide (r1 ≥ 0)))
noncomputable def kx (rec : Formula → Option Bool) (a0 : Formula) : Option Bool :=
  (((rec a0)).bind fun r5 => some (!r5))
noncomputable def kM (rec : Formula → Option Bool) (a0 : Formula) : Option Bool :=
  (((mz a0)).bind fun r5 => (((if r5 then some ((decide (((a0.Kids.length : Int)) ≤ 8))) else some false) : Option Bool).bind fun x9 => (((if x9 then (((fB a0.Kids (fun (x : Formula) => kx rec x))).bind fun r28 => some ((!r28))) else some false) : Option Bool).bind fun x19 => some x19)))
noncomputable def jF : Nat → Formula → Option Bool
  | 0 => fun _ => none
  | n + 1 => kM (jF n)
noncomputable def iT (a0 : Formula) : Option Bool :=
  (((mw a0)).bind fun r5 => (((if (decide (r5.1 ≥ 1)) then some ((decide (r5.1 ≤ 64))) else some false) : Option Bool).bind fun x9 => (((if x9 then some ((decide (r5.2 ≤ 6))) else some false) : Option Bool).bind fun x17 => (((if x17 then (((jF bR a0)).bind fun r36 => some r36) else some false) : Option Bool).bind fun x27 => some x27))))
noncomputable def kc (a0 : Formula) (a1 : Int) : Option Bool :=
  (((if (a0.Op == a1) then some ((((a0.Kids.length : Int)) == 0)) else some false) : Option Bool).bind fun x6 => some x6)
noncomputable def nk  : Option Formula :=
  some (⟨2, 0, (⟨zS, zS⟩ : Role), []⟩ : Formula)
noncomputable def nI  : Option Formula :=
  some (⟨3, 0, (⟨zS, zS⟩ : Role), []⟩ : Formula)
noncomputable def gQ (a0 : Int) : List Formula → (List Formula) → Option (List Formula)
  | [], l132 => some l132
  | x100 :: xs101, l132 => (if (x100.Op == a0) then (((gT 72 l132 x100.Kids)).bind fun l183 => (gQ a0 xs101 l183)) else (((gT 72 l132 ([x100]))).bind fun l191 => (gQ a0 xs101 l191)))
noncomputable def oc (a0 : Int) (a1 : List Formula) : Option (List Formula) :=
  gQ a0 a1 ([])
noncomputable def ii (a0 : Formula) (c0 : Int) : Option Bool :=
  (((kc a0 c0)).bind fun r5 => some r5)
noncomputable def kq (a0 : List Formula) : Option (List Formula) :=
  (((gT 72 ([]) a0)).bind fun l8 => some l8)
noncomputable def cO (a1 : Int) (f3 : ((Formula × Formula)) → Option Int) : Nat → (List Formula) → Int → Option (List Formula)
  | 0, _, _ => none
  | n10440 + 1, l10137, x10140 => (((if (decide (x10140 > a1)) then (((dS l10137 x10140)).bind fun x10717 => (((dS l10137 ((IntKind.i64.wrap (x10140 - 1))))).bind fun x10725 => (((f3 ((x10717, x10725)))).bind fun r10730 => some ((decide (r10730 < 0)))))) else some false) : Option Bool).bind fun x10573 => (if x10573 then (((dS l10137 ((IntKind.i64.wrap (x10140 - 1))))).bind fun x10671 => (((dS l10137 x10140)).bind fun x10679 => (((dS l10137 x10140)).bind fun x10687 => (((dS ((l10137.set (Int.toNat x10140) x10671)) ((IntKind.i64.wrap (x10140 - 1))))).bind fun x10700 => (cO a1 f3 n10440 ((((l10137.set (Int.toNat x10140) x10671)).set (Int.toNat ((IntKind.i64.wrap (x10140 - 1)))) ((⟨x10679.Op, x10679.K, x10679.Role, x10679.Kids⟩ : Formula)))) ((IntKind.i64.wrap (x10140 - 1)))))))) else some l10137))
noncomputable def cC (a2 : Int) (a1 : Int) (f3 : ((Formula × Formula)) → Option Int) : Nat → (List Formula) → Int → Option (List Formula)
  | 0, _, _ => none
  | n8946 + 1, l7149, x7152 => (if (decide (x7152 < a2)) then ((cO a1 f3 bR l7149 x7152 : Option (List Formula)).bind fun l9837 => (cC a2 a1 f3 n8946 l9837 ((IntKind.i64.wrap (x7152 + 1))))) else some l7149)
noncomputable def eD (a0 : List Formula) (a1 : Int) (a2 : Int) (f3 : ((Formula × Formula)) → Option Int) : Option (List Formula) :=
  cC a2 a1 f3 bR a0 ((IntKind.i64.wrap (a1 + 1)))
noncomputable def dA (a3 : Int) (a2 : Int) (a1 : Int) : Nat → (List Formula) → Int → Option (List Formula)
  | 0, _, _ => none
  | n676 + 1, l533, x536 => (if (decide (x536 < a3)) then (((dS l533 ((IntKind.i64.wrap (a2 + x536))))).bind fun x770 => (((dS l533 ((IntKind.i64.wrap (a1 + x536))))).bind fun x778 => (((dS l533 ((IntKind.i64.wrap (a1 + x536))))).bind fun x786 => (((dS ((l533.set (Int.toNat ((IntKind.i64.wrap (a1 + x536)))) x770)) ((IntKind.i64.wrap (a2 + x536))))).bind fun x799 => (dA a3 a2 a1 n676 ((((l533.set (Int.toNat ((IntKind.i64.wrap (a1 + x536)))) x770)).set (Int.toNat ((IntKind.i64.wrap (a2 + x536)))) ((⟨x778.Op, x778.K, x778.Role, x778.Kids⟩ : Formula)))) ((IntKind.i64.wrap (x536 + 1)))))))) else some l533)
noncomputable def dY (a0 : List Formula) (a1 : Int) (a2 : Int) (a3 : Int) (f4 : ((Formula × Formula)) → Option Int) : Option (List Formula) :=
  dA a3 a2 a1 bR a0 0
noncomputable def dL (a2 : Int) (f4 : ((Formula × Formula)) → Option Int) : Nat → (List Formula) → Int → Int → Option (List Formula)
  | 0, _, _, _ => none
  | n185 + 1, l138, x141, x142 => (if (x141 != x142) then (if (decide (x141 > x142)) then (((dY l138 ((IntKind.i64.wrap (a2 - x141))) a2 x142 f4)).bind fun r195 => (dL a2 f4 n185 r195 ((IntKind.i64.wrap (x141 - x142))) x142)) else (((dY l138 ((IntKind.i64.wrap (a2 - x141))) ((IntKind.i64.wrap (((IntKind.i64.wrap (a2 + x142))) - x141))) x141 f4)).bind fun r207 => (dL a2 f4 n185 r207 x141 ((IntKind.i64.wrap (x142 - x141)))))) else (((dY l138 ((IntKind.i64.wrap (a2 - x141))) a2 x141 f4)).bind fun r219 => some r219))
noncomputable def dU (a0 : List Formula) (a1 : Int) (a2 : Int) (a3 : Int) (f4 : ((Formula × Formula)) → Option Int) : Option (List Formula) :=
  dL a2 f4 bR a0 ((IntKind.i64.wrap (a2 - a1))) ((IntKind.i64.wrap (a3 - a2)))
noncomputable def dE (x255 : Int) : Nat → (List Formula) → Int → Option (List Formula)
  | 0, _, _ => none
  | n1068 + 1, l927, x930 => (if (decide (x930 < ((IntKind.i64.wrap (x255 - 1))))) then (((dS l927 ((IntKind.i64.wrap (x930 + 1))))).bind fun x1160 => (((dS l927 x930)).bind fun x1168 => (((dS l927 x930)).bind fun x1176 => (((dS ((l927.set (Int.toNat x930) x1160)) ((IntKind.i64.wrap (x930 + 1))))).bind fun x1189 => (dE x255 n1068 ((((l927.set (Int.toNat x930) x1160)).set (Int.toNat ((IntKind.i64.wrap (x930 + 1)))) ((⟨x1168.Op, x1168.K, x1168.Role, x1168.Kids⟩ : Formula)))) ((IntKind.i64.wrap (x930 + 1)))))))) else some l927)
noncomputable def bY (a0 : List Formula) (a1 : Int) (f4 : ((Formula × Formula)) → Option Int) : Nat → Int → Int → Option (List Formula)
  | 0, _, _ => none
  | n325 + 1, x255, x256 => (if (decide (x255 < x256)) then (((dS a0 ((IntKind.i64.wrap ((Int.fdiv ((IntKind.u64.wrap ((IntKind.i64.wrap (x255 + x256))))) (2 ^ min (Int.toNat 1) (IntKind.bits .u64)))))))).bind fun x373 => (((dS a0 a1)).bind fun x381 => (((f4 ((x373, x381)))).bind fun r386 => (if (decide (r386 < 0)) then (bY a0 a1 f4 n325 ((IntKind.i64.wrap (((IntKind.i64.wrap ((Int.fdiv ((IntKind.u64.wrap ((IntKind.i64.wrap (x255 + x256))))) (2 ^ min (Int.toNat 1) (IntKind.bits .u64)))))) + 1))) x256) else (bY a0 a1 f4 n325 x255 ((IntKind.i64.wrap ((Int.fdiv ((IntKind.u64.wrap ((IntKind.i64.wrap (x255 + x256))))) (2 ^ min (Int.toNat 1) (IntKind.bits .u64))))))))))) else ((dE x255 bR a0 a1 : Option (List Formula)).bind fun l791 => some l791))
noncomputable def dD (x1453 : Int) : Nat → (List Formula) → Int → Option (List Formula)
  | 0, _, _ => none
  | n2266 + 1, l2125, x2128 => (if (decide (x2128 > x1453)) then (((dS l2125 ((IntKind.i64.wrap (x2128 - 1))))).bind fun x2358 => (((dS l2125 x2128)).bind fun x2366 => (((dS l2125 x2128)).bind fun x2374 => (((dS ((l2125.set (Int.toNat x2128) x2358)) ((IntKind.i64.wrap (x2128 - 1))))).bind fun x2387 => (dD x1453 n2266 ((((l2125.set (Int.toNat x2128) x2358)).set (Int.toNat ((IntKind.i64.wrap (x2128 - 1)))) ((⟨x2366.Op, x2366.K, x2366.Role, x2366.Kids⟩ : Formula)))) ((IntKind.i64.wrap (x2128 - 1)))))))) else some l2125)
noncomputable def bZ (a0 : List Formula) (a2 : Int) (f4 : ((Formula × Formula)) → Option Int) : Nat → Int → Int → Option (List Formula)
  | 0, _, _ => none
  | n1523 + 1, x1453, x1454 => (if (decide (x1453 < x1454)) then (((dS a0 a2)).bind fun x1571 => (((dS a0 ((IntKind.i64.wrap ((Int.fdiv ((IntKind.u64.wrap ((IntKind.i64.wrap (x1453 + x1454))))) (2 ^ min (Int.toNat 1) (IntKind.bits .u64)))))))).bind fun x1579 => (((f4 ((x1571, x1579)))).bind fun r1584 => (if (!((decide (r1584 < 0)))) then (bZ a0 a2 f4 n1523 ((IntKind.i64.wrap (((IntKind.i64.wrap ((Int.fdiv ((IntKind.u64.wrap ((IntKind.i64.wrap (x1453 + x1454))))) (2 ^ min (Int.toNat 1) (IntKind.bits .u64)))))) + 1))) x1454) else (bZ a0 a2 f4 n1523 x1453 ((IntKind.i64.wrap ((Int.fdiv ((IntKind.u64.wrap ((IntKind.i64.wrap (x1453 + x1454))))) (2 ^ min (Int.toNat 1) (IntKind.bits .u64))))))))))) else ((dD x1453 bR a0 a2 : Option (List Formula)).bind fun l1989 => some l1989))
noncomputable def bL (a0 : List Formula) (a1 : Int) (a3 : Int) (a2 : Int) (f4 : ((Formula × Formula)) → Option Int) (rec : (List Formula) → Int → Int → Int → (((Formula × Formula)) → Option Int) → Option (List Formula)) : Nat → Int → Int → Option (List Formula)
  | 0, _, _ => none
  | n2749 + 1, x2674, x2675 => (if (decide (x2674 < x2675)) then (((dS a0 ((IntKind.i64.wrap (((IntKind.i64.wrap (((IntKind.i64.wrap (((IntKind.i64.wrap ((Int.fdiv ((IntKind.u64.wrap ((IntKind.i64.wrap (a1 + a3))))) (2 ^ min (Int.toNat 1) (IntKind.bits .u64)))))) + a2))) - 1))) - ((IntKind.i64.wrap ((Int.fdiv ((IntKind.u64.wrap ((IntKind.i64.wrap (x2674 + x2675))))) (2 ^ min (Int.toNat 1) (IntKind.bits .u64))))))))))).bind fun x2802 => (((dS a0 ((IntKind.i64.wrap ((Int.fdiv ((IntKind.u64.wrap ((IntKind.i64.wrap (x2674 + x2675))))) (2 ^ min (Int.toNat 1) (IntKind.bits .u64)))))))).bind fun x2810 => (((f4 ((x2802, x2810)))).bind fun r2815 => (if (!((decide (r2815 < 0)))) then (bL a0 a1 a3 a2 f4 rec n2749 ((IntKind.i64.wrap (((IntKind.i64.wrap ((Int.fdiv ((IntKind.u64.wrap ((IntKind.i64.wrap (x2674 + x2675))))) (2 ^ min (Int.toNat 1) (IntKind.bits .u64)))))) + 1))) x2675) else (bL a0 a1 a3 a2 f4 rec n2749 x2674 ((IntKind.i64.wrap ((Int.fdiv ((IntKind.u64.wrap ((IntKind.i64.wrap (x2674 + x2675))))) (2 ^ min (Int.toNat 1) (IntKind.bits .u64))))))))))) else (((((if (decide (x2674 < a2)) then some ((decide (a2 < ((IntKind.i64.wrap (((IntKind.i64.wrap (((IntKind.i64.wrap ((Int.fdiv ((IntKind.u64.wrap ((IntKind.i64.wrap (a1 + a3))))) (2 ^ min (Int.toNat 1) (IntKind.bits .u64)))))) + a2))) - x2674)))))) else some false) : Option Bool).bind fun x2971 => (if x2971 then (((dU a0 x2674 a2 ((IntKind.i64.wrap (((IntKind.i64.wrap (((IntKind.i64.wrap ((Int.fdiv ((IntKind.u64.wrap ((IntKind.i64.wrap (a1 + a3))))) (2 ^ min (Int.toNat 1) (IntKind.bits .u64)))))) + a2))) - x2674))) f4)).bind fun r2984 => some r2984) else some a0)) : Option (List Formula)).bind fun l2851 => (((((if (decide (a1 < x2674)) then some ((decide (x2674 < ((IntKind.i64.wrap ((Int.fdiv ((IntKind.u64.wrap ((IntKind.i64.wrap (a1 + a3))))) (2 ^ min (Int.toNat 1) (IntKind.bits .u64))))))))) else some false) : Option Bool).bind fun x2939 => (if x2939 then (((rec l2851 a1 x2674 ((IntKind.i64.wrap ((Int.fdiv ((IntKind.u64.wrap ((IntKind.i64.wrap (a1 + a3))))) (2 ^ min (Int.toNat 1) (IntKind.bits .u64)))))) f4)).bind fun r2951 => some r2951) else some l2851)) : Option (List Formula)).bind fun l2896 => (((if (decide (((IntKind.i64.wrap ((Int.fdiv ((IntKind.u64.wrap ((IntKind.i64.wrap (a1 + a3))))) (2 ^ min (Int.toNat 1) (IntKind.bits .u64)))))) < ((IntKind.i64.wrap (((IntKind.i64.wrap (((IntKind.i64.wrap ((Int.fdiv ((IntKind.u64.wrap ((IntKind.i64.wrap (a1 + a3))))) (2 ^ min (Int.toNat 1) (IntKind.bits .u64)))))) + a2))) - x2674))))) then some ((decide (((IntKind.i64.wrap (((IntKind.i64.wrap (((IntKind.i64.wrap ((Int.fdiv ((IntKind.u64.wrap ((IntKind.i64.wrap (a1 + a3))))) (2 ^ min (Int.toNat 1) (IntKind.bits .u64)))))) + a2))) - x2674))) < a3))) else some false) : Option Bool).bind fun x2909 => (if x2909 then (((rec l2896 ((IntKind.i64.wrap ((Int.fdiv ((IntKind.u64.wrap ((IntKind.i64.wrap (a1 + a3))))) (2 ^ min (Int.toNat 1) (IntKind.bits .u64)))))) ((IntKind.i64.wrap (((IntKind.i64.wrap (((IntKind.i64.wrap ((Int.fdiv ((IntKind.u64.wrap ((IntKind.i64.wrap (a1 + a3))))) (2 ^ min (Int.toNat 1) (IntKind.bits .u64)))))) + a2))) - x2674))) a3 f4)).bind fun r2919 => some r2919) else some l2896)))))
noncomputable def gm (rec : (List Formula) → Int → Int → Int → (((Formula × Formula)) → Option Int) → Option (List Formula)) (a0 : List Formula) (a1 : Int) (a2 : Int) (a3 : Int) (f4 : ((Formula × Formula)) → Option Int) : Option (List Formula) :=
  (if (((IntKind.i64.wrap (a2 - a1))) == 1) then bY a0 a1 f4 bR a2 a3 else (if (((IntKind.i64.wrap (a3 - a2))) == 1) then bZ a0 a2 f4 bR a1 a2 else (((if (decide (a2 > ((IntKind.i64.wrap ((Int.fdiv ((IntKind.u64.wrap ((IntKind.i64.wrap (a1 + a3))))) (2 ^ min (Int.toNat 1) (IntKind.bits .u64)))))))) then some (((IntKind.i64.wrap (((IntKind.i64.wrap (((IntKind.i64.wrap ((Int.fdiv ((IntKind.u64.wrap ((IntKind.i64.wrap (a1 + a3))))) (2 ^ min (Int.toNat 1) (IntKind.bits .u64)))))) + a2))) - a3))), ((IntKind.i64.wrap ((Int.fdiv ((IntKind.u64.wrap ((IntKind.i64.wrap (a1 + a3))))) (2 ^ min (Int.toNat 1) (IntKind.bits .u64))))))) else some (a1, a2)) : Option ((Int × Int))).bind fun (x2398, x2399) => bL a0 a1 a3 a2 f4 rec bR x2398 x2399)))
noncomputable def cP : Nat → (List Formula) → Int → Int → Int → (((Formula × Formula)) → Option Int) → Option (List Formula)
  | 0 => fun _ _ _ _ _ => none
  | n + 1 => gm (cP n)
noncomputable def dM (a1 : Int) (x1021 : Int) (f2 : ((Formula × Formula)) → Option Int) : Nat → (List Formula) → Int → Int → Option (((List Formula) × Int))
  | 0, _, _, _ => none
  | n1431 + 1, l1396, x1399, x1400 => (if (decide (x1400 ≤ a1)) then (((cP bR l1396 x1399 ((IntKind.i64.wrap (x1399 + x1021))) x1400 f2)).bind fun r1441 => (dM a1 x1021 f2 n1431 r1441 x1400 ((IntKind.i64.wrap (x1400 + ((IntKind.i64.wrap (2 * x1021)))))))) else some (l1396, x1399))
noncomputable def cY (a1 : Int) (f2 : ((Formula × Formula)) → Option Int) : Nat → (List Formula) → Int → Option (List Formula)
  | 0, _, _ => none
  | n1241 + 1, l1018, x1021 => (if (decide (x1021 < a1)) then ((dM a1 x1021 f2 bR l1018 0 ((IntKind.i64.wrap (2 * x1021))) : Option (((List Formula) × Int))).bind fun (l1323, x1326) => (((if (decide (((IntKind.i64.wrap (x1326 + x1021))) < a1)) then (((cP bR l1323 x1326 ((IntKind.i64.wrap (x1326 + x1021))) a1 f2)).bind fun r1366 => some r1366) else some l1323) : Option (List Formula)).bind fun l1351 => (cY a1 f2 n1241 l1351 ((IntKind.i64.wrap (x1021 * 2)))))) else some l1018)
noncomputable def cX (a1 : Int) (f2 : ((Formula × Formula)) → Option Int) : Nat → (List Formula) → Int → Int → Option (List Formula)
  | 0, _, _, _ => none
  | n123 + 1, l88, x91, x92 => (if (decide (x92 ≤ a1)) then (((eD l88 x91 x92 f2)).bind fun r133 => (cX a1 f2 n123 r133 x92 ((IntKind.i64.wrap (x92 + 20))))) else (((eD l88 x91 a1 f2)).bind fun r145 => ((cY a1 f2 bR r145 20 : Option (List Formula)).bind fun l801 => some l801)))
noncomputable def iq (a0 : List Formula) (a1 : Int) (f2 : ((Formula × Formula)) → Option Int) : Option (List Formula) :=
  cX a1 f2 bR a0 0 20
noncomputable def gk (a0 : List Formula) (f1 : ((Formula × Formula)) → Option Int) : Option (List Formula) :=
  (((iq a0 ((a0.length : Int)) f1)).bind fun r1 => some r1)
noncomputable def gO (rec : (List Int) → Formula → Option (List Int)) : List Formula → (List Int) → Option (List Int)
  | [], l195 => some l195
  | x164 :: xs165, l195 => (((rec l195 x164)).bind fun r244 => (gO rec xs165 r244))
noncomputable def kR (rec : (List Int) → Formula → Option (List Int)) (a0_b : List Int) (a1 : Formula) : Option (List Int) :=
  (((fU a0_b a1.Op)).bind fun r5 => (if (a1.Op == 1) then (((iG r5.2 a1.Role)).bind fun r19 => some r19.2) else (((if (a1.Op == 4) then (((fU r5.2 a1.K)).bind fun r261 => some r261.2) else some r5.2) : Option (List Int)).bind fun l48 => (((fU l48 ((a1.Kids.length : Int)))).bind fun r56 => gO rec a1.Kids r56.2))))
noncomputable def iR : Nat → (List Int) → Formula → Option (List Int)
  | 0 => fun _ _ => none
  | n + 1 => kR (iR n)
noncomputable def lS (a0_b : List Int) (a1 : Formula) : Option ((Bool × (List Int))) :=
  (((iT a1)).bind fun r5 => (if (!r5) then some (false, a0_b) else (((iR bR a0_b a1)).bind fun r9 => some (true, r9))))
noncomputable def jM (a0 : Formula) : Option (List Int) :=
  (((lS ([]) a0)).bind fun r7 => (((ki r7.2)).bind fun r20 => some r20))
noncomputable def jN (a0 : Formula) (a1 : Formula) : Option Int :=
  (((jM a0)).bind fun r51 => (((jM a1)).bind fun r60 => (((lN r51 r60)).bind fun r69 => some r69)))
noncomputable def kY (a0 : List Formula) : Option (List Formula) :=
  (((kq a0)).bind fun r1 => (((gk r1 (fun (x : (Formula × Formula)) => jN x.1 x.2))).bind fun r14 => some r14))
noncomputable def dQ (x4741 : Int) (f1 : ((Formula × Formula)) → Option Bool) : Nat → (List Formula) → Int → Int → Option (((List Formula) × Int))
  | 0, _, _, _ => none
  | n6934 + 1, l6742, x6745, x6746 => (if (decide (x6746 < (((l6742.length - (Int.toNat x4741) : Nat) : Int)))) then (((((dS (l6742.drop (Int.toNat x4741)) x6746)).bind fun x7076 => (((dS (l6742.drop (Int.toNat x4741)) ((IntKind.i64.wrap (x6746 - 1))))).bind fun x7084 => (((f1 ((x7076, x7084)))).bind fun r7089 => (if (!r7089) then (((dS (l6742.drop (Int.toNat x4741)) x6746)).bind fun x7096 => (((dS l6742 x6745)).bind fun x7104 => some (((l6742.set (Int.toNat x6745) x7096)), ((IntKind.i64.wrap (x6745 + 1)))))) else some (l6742, x6745))))) : Option (((List Formula) × Int))).bind fun (l7021, x7024) => (dQ x4741 f1 n6934 l7021 x7024 ((IntKind.i64.wrap (x6746 + 1))))) else some (l6742, x6745))
noncomputable def dR (a0 : List Formula) (f1 : ((Formula × Formula)) → Option Bool) : Nat → Int → Option (List Formula)
  | 0, _ => none
  | n5929 + 1, x4741 => (if (decide (x4741 < ((a0.length : Int)))) then (((dS a0 x4741)).bind fun x5975 => (((dS a0 ((IntKind.i64.wrap (x4741 - 1))))).bind fun x5983 => (((f1 ((x5975, x5983)))).bind fun r5988 => (if r5988 then (((lE (decide (0 ≤ x4741) && decide (x4741 ≤ (a0.length : Int))))).bind fun _ => ((dQ x4741 f1 bR a0 x4741 1 : Option (((List Formula) × Int))).bind fun (l6543, x6546) => (((lE (decide (0 ≤ x6546) && decide (x6546 ≤ (l6543.length : Int))))).bind fun _ => (((lE (decide (0 ≤ x6546) && decide (x6546 ≤ (((gW l6543 (Int.toNat x6546) (⟨0, 0, (⟨zS, zS⟩ : Role), []⟩ : Formula))).length : Int))))).bind fun _ => some (((gW l6543 (Int.toNat x6546) (⟨0, 0, (⟨zS, zS⟩ : Role), []⟩ : Formula))).take (Int.toNat x6546)))))) else (dR a0 f1 n5929 ((IntKind.i64.wrap (x4741 + 1)))))))) else some a0)
noncomputable def gL (a0 : List Formula) (f1 : ((Formula × Formula)) → Option Bool) : Option (List Formula) :=
  (if (decide (((a0.length : Int)) < 2)) then some a0 else dR a0 f1 bR 1)
noncomputable def bH (a1 : List Formula) (f2 : ((Formula × Formula)) → Option Bool) : List Formula → Nat → Option Bool
  | [], _ => some true
  | x96 :: xs97, i95 => (((dS a1 ((i95 : Int)))).bind fun x175 => (((f2 ((x96, x175)))).bind fun r184 => (if (!r184) then some false else (bH a1 f2 xs97 (i95 + 1)))))
noncomputable def dF (a0 : List Formula) (a1 : List Formula) (f2 : ((Formula × Formula)) → Option Bool) : Option Bool :=
  (if (((a0.length : Int)) != ((a1.length : Int))) then some false else bH a1 f2 a0 0)
noncomputable def lB (rec : Formula → Formula → Option Bool) (a0 : Formula) (a1 : Formula) : Option Bool :=
  (((if (a0.Op == a1.Op) then some ((a0.K == a1.K)) else some false) : Option Bool).bind fun x10 => (((if x10 then some ((bF a0.Role a1.Role)) else some false) : Option Bool).bind fun x18 => (((if x18 then (((dF a0.Kids a1.Kids (fun (x : (Formula × Formula)) => rec x.1 x.2))).bind fun r38 => some r38) else some false) : Option Bool).bind fun x29 => some x29)))
noncomputable def gJ : Nat → Formula → Formula → Option Bool
  | 0 => fun _ _ => none
  | n + 1 => lB (gJ n)
noncomputable def fO (a0 : bK) (a1 : Int) (a2 : List Formula) : Option ((Formula × bK)) :=
  (((oc a1 a2)).bind fun r6 => (((fB r6 (fun (x : Formula) => ii x ((IntKind.i64.wrap (5 - a1)))))).bind fun r18 => (if r18 then some ((⟨(IntKind.i64.wrap (5 - a1)), 0, (⟨zS, zS⟩ : Role), []⟩ : Formula), a0) else (((kY r6)).bind fun r24 => (((gL r24 (fun (x : (Formula × Formula)) => gJ bR x.1 x.2))).bind fun r37 => (((if (decide (((r37.length : Int)) > 64)) then some ((⟨12⟩ : bK)) else some a0) : Option bK).bind fun x51 => (if (((r37.length : Int)) == 1) then (((dS r37 0)).bind fun x61 => some (x61, x51)) else some ((⟨a1, 0, (⟨zS, zS⟩ : Role), r37⟩ : Formula), x51))))))))
noncomputable def dG (a0 : bK) : List Formula → Int → (List Formula) → Option ((Formula × bK))
  | [], x143, l145 => (if (decide (x143 ≤ 0)) then (nk.bind fun r218 => some (r218, a0)) else (if (decide (x143 > ((l145.length : Int)))) then (nI.bind fun r235 => some (r235, a0)) else (if (x143 == ((l145.length : Int))) then (((fO a0 2 l145)).bind fun r256 => some (r256.1, r256.2)) else (if (x143 == 1) then (((fO a0 3 l145)).bind fun r277 => some (r277.1, r277.2)) else (((kY l145)).bind fun r297 => some ((⟨4, x143, (⟨zS, zS⟩ : Role), r297⟩ : Formula), a0))))))
  | x111 :: xs112, x143, l145 => (((kc x111 2)).bind fun r201 => (if r201 then (dG a0 xs112 ((IntKind.i64.wrap (x143 - 1))) l145) else (((kc x111 3)).bind fun r205 => (if (!r205) then (((gT 72 l145 ([x111]))).bind fun l211 => (dG a0 xs112 x143 l211)) else (dG a0 xs112 x143 l145)))))
noncomputable def ip (a0 : bK) (a1 : Int) (a2 : List Formula) : Option ((Formula × bK)) :=
  dG a0 a2 a1 ([])
noncomputable def eJ (rec : bK → Formula → Option ((Formula × bK))) (a1 : Formula) : List Formula → (List Formula) → bK → Option ((Formula × bK))
  | [], l182, x185 => (if (a1.Op == 4) then (((ip x185 a1.K l182)).bind fun r277 => some (r277.1, r277.2)) else (((fO x185 a1.Op l182)).bind fun r297 => some (r297.1, r297.2)))
  | x142 :: xs143, l182, x185 => (((rec x185 x142)).bind fun r250 => (((gT 72 l182 ([r250.1]))).bind fun l266 => (eJ rec a1 xs143 l266 r250.2)))
noncomputable def iJ (rec : bK → Formula → Option ((Formula × bK))) (a0 : bK) (a1 : Formula) : Option ((Formula × bK)) :=
  (if (a1.Op == 1) then some (a1, a0) else eJ rec a1 a1.Kids ([]) a0)
noncomputable def fA : Nat → bK → Formula → Option ((Formula × bK))
  | 0 => fun _ _ => none
  | n + 1 => iJ (fA n)
noncomputable def ni (a0 : Formula) : Option ((Formula × Int)) :=
  (((iT a0)).bind fun r7 => (if (!r7) then some ((⟨0, 0, (⟨zS, zS⟩ : Role), []⟩ : Formula), 11) else (((fA bR ((⟨0⟩ : bK)) a0)).bind fun r15 => (((if (r15.2.e != 0) then some true else (((iT r15.1)).bind fun r51 => some ((!r51)))) : Option Bool).bind fun x36 => (if x36 then some ((⟨0, 0, (⟨zS, zS⟩ : Role), []⟩ : Formula), 12) else some (r15.1, 0))))))
noncomputable def mY (a0 : Formula) (a1 : Formula) : Option ((Formula × Int)) :=
  (((ni ((⟨2, 0, (⟨zS, zS⟩ : Role), [a0, a1]⟩ : Formula)))).bind fun r17 => some (r17.1, r17.2))
noncomputable def jx  : List Formula → Int → Int → Int → Role → (List Formula) → Option ((Int × Int × Int × Role × (List Formula)))
  | [], x204, x205, x206, x207, l209 => some (x204, x205, x206, x207, l209)
  | x171 :: xs172, x204, x205, x206, x207, l209 => (if (x204 != 0) then some (x204, x205, x206, x207, l209) else (((mY ((⟨x205, x206, x207, l209⟩ : Formula)) x171)).bind fun r270 => (jx xs172 r270.2 ((r270.1).Op) ((r270.1).K) ((r270.1).Role) ((r270.1).Kids))))
noncomputable def md (a0 : List Formula) : Option ((Formula × Int)) :=
  (((dS a0 0)).bind fun x6 => (((ni x6)).bind fun r10 => (((lE (decide (0 ≤ 1) && decide (1 ≤ (a0.length : Int))))).bind fun _ => ((jx ((a0.drop (Int.toNat 1))) r10.2 ((r10.1).Op) ((r10.1).K) ((r10.1).Role) ((r10.1).Kids) : Option ((Int × Int × Int × Role × (List Formula)))).bind fun (x146, x147, x148, x149, l151) => (if (x146 != 0) then some ((⟨0, 0, (⟨zS, zS⟩ : Role), []⟩ : Formula), x146) else some ((⟨x147, x148, x149, l151⟩ : Formula), 0))))))
noncomputable def jO  : List eS → (List Formula) → Option ((Formula × Int))
  | [], l168 => (((md l168)).bind fun r231 => some (r231.1, r231.2))
  | x139 :: xs140, l168 => (((gT 72 l168 ([x139.Release]))).bind fun l221 => (jO xs140 l221))
noncomputable def oO (a0 : bT) (a1 : Cred) : Option ((Formula × Int)) :=
  (((nB a0 a1)).bind fun r11 => (if (!r11.2) then some ((⟨0, 0, (⟨zS, zS⟩ : Role), []⟩ : Formula), 42) else (((nc a0 a1)).bind fun r37 => jO r37 ([(r11.1).Release]))))
noncomputable def gv (rec : Formula → (Role → Option Bool) → Option Bool) (f1 : Role → Option Bool) (a0 : Formula) : List Formula → Int → Option Bool
  | [], x91 => (if (a0.Op == 2) then some (x91 == ((a0.Kids.length : Int))) else (if (a0.Op == 3) then some (decide (x91 > 0)) else some (decide (x91 ≥ a0.K))))
  | x71 :: xs72, x91 => (((rec x71 f1)).bind fun r127 => (if r127 then (gv rec f1 a0 xs72 ((IntKind.i64.wrap (x91 + 1)))) else (gv rec f1 a0 xs72 x91)))
noncomputable def kN (rec : Formula → (Role → Option Bool) → Option Bool) (a0 : Formula) (f1 : Role → Option Bool) : Option Bool :=
  (if (a0.Op == 1) then (((f1 a0.Role)).bind fun r6 => some r6) else gv rec f1 a0 a0.Kids 0)
noncomputable def iQ : Nat → Formula → (Role → Option Bool) → Option Bool
  | 0 => fun _ _ => none
  | n + 1 => kN (iQ n)
noncomputable def mn (a0 : Formula) (f1 : Role → Option Bool) : Option Bool :=
  (((iT a0)).bind fun r5 => (((if r5 then (((iQ bR a0 f1)).bind fun r21 => some r21) else some false) : Option Bool).bind fun x12 => some x12))
noncomputable def jH (a0 : Role) (c0q_in_ : List (Role × (List (ByteArray × Bool)))) (c0q_creds : List Cred) (c0q_uses : List (Role × (List Cred))) (c0q_words : List (ByteArray × (List Cred))) (c0q_todo : List aZ) (c0q_n : Int) (c1 : ByteArray) : Option Bool :=
  (((mP c0q_in_ c0q_creds c0q_uses c0q_words c0q_todo c0q_n a0 c1)).bind fun r3 => some r3)
noncomputable def ig (a0 : bT) (r7 : ((List (Role × (List (ByteArray × Bool)))) × (List Cred) × (List (Role × (List Cred))) × (List (ByteArray × (List Cred))) × (List aZ) × Int × ByteArray)) : List aV → (List Cred) → Option (List Cred)
  | [], l321 => (((lW l321)).bind fun r465 => some r465)
  | x251 :: xs252, l321 => (((oO a0 x251.Signed.Cred)).bind fun r417 => (((if (r417.2 == 0) then (((mn r417.1 (fun (x : Role) => jH x r7.1 r7.2.1 r7.2.2.1 r7.2.2.2.1 r7.2.2.2.2.1 r7.2.2.2.2.2.1 r7.2.2.2.2.2.2))).bind fun r462 => some r462) else some false) : Option Bool).bind fun x438 => (if x438 then (((gT 136 l321 ([x251.Signed.Cred]))).bind fun l452 => (ig a0 r7 xs252 l452)) else (ig a0 r7 xs252 l321))))
noncomputable def jd (a0 : bT) (a1 : List Cred) (a2 : ByteArray) : Option (List Cred) :=
  (((nz a1 a2)).bind fun r7 => ig a0 r7 a0.Creds ([]))
noncomputable def lO (a0 : Cred) (c0 : List Cred) : Option Bool :=
  (((jj c0 a0)).bind fun r3 => some (!r3))
noncomputable def mD (a0 : List Cred) (a1 : List Cred) : Option (List Cred) :=
  (((ic a0)).bind fun r5 => (((fR r5 (fun (x : Cred) => lO x a1))).bind fun r14 => some r14))
noncomputable def jp (a0 : eW) : Nat → (List Cred) → (List Cred) → Option (((List Cred) × (List Cred)))
  | 0, _, _ => none
  | n377 + 1, l304, l308 => (((jd a0.Owner l308 a0.Client.Name)).bind fun r382 => (((mD l304 r382)).bind fun r391 => (((jd a0.Client l304 a0.Owner.Name)).bind fun r400 => (((mD l308 r400)).bind fun r409 => (((if (((r391.length : Int)) == ((l304.length : Int))) then some ((((r409.length : Int)) == ((l308.length : Int)))) else some false) : Option Bool).bind fun x419 => (if x419 then some (l304, l308) else (jp a0 n377 r391 r409)))))))
noncomputable def ji (a0 : eW) : Option (((List Cred) × (List Cred))) :=
  (((nh a0.Owner)).bind fun r51 => (((nh a0.Client)).bind fun r60 => jp a0 bR r51 r60))
noncomputable def kh (a0 : bT) (a1 : bT) : Nat → (List Cred) → (List Cred) → Int → Option (((List Cred) × (List Cred) × Int))
  | 0, _, _, _ => none
  | n431 + 1, l334, l338, x341 => (((jd a0 l338 a1.Name)).bind fun r474 => (((jd a1 l334 a0.Name)).bind fun r483 => (((if (((r474.length : Int)) == ((l334.length : Int))) then some ((((r483.length : Int)) == ((l338.length : Int)))) else some false) : Option Bool).bind fun x493 => (if x493 then some (l334, l338, x341) else (kh a0 a1 n431 r474 r483 ((IntKind.i64.wrap (x341 + 1))))))))
noncomputable def ma (a0 : bT) (a1 : bT) : Option (((List Cred) × (List Cred) × Int)) :=
  kh a0 a1 bR ([]) ([]) 0
noncomputable def lA (a0 : Cred) (c0 : List Cred) : Option Bool :=
  (((jj c0 a0)).bind fun r3 => some r3)
noncomputable def lI (a0 : List Cred) (a1 : List Cred) : Option (List Cred) :=
  (((ic a0)).bind fun r5 => (((fR r5 (fun (x : Cred) => lA x a1))).bind fun r14 => some r14))
noncomputable def jQ (a0 : eW) : Option (((List Cred) × (List Cred))) :=
  (((ji a0)).bind fun r15 => (((ma a0.Owner a0.Client)).bind fun r31 => (((lI r15.1 r31.1)).bind fun r47 => (((lI r15.2 r31.2.1)).bind fun r56 => some (r47, r56)))))
noncomputable def gS (a0 : aV) (c0 : Cred) : Option Bool :=
  some (bG a0.Signed.Cred c0)
noncomputable def gZ (a0 : List aV) : Option (List aV) :=
  (((gT 232 ([]) a0)).bind fun l8 => some l8)
noncomputable def fJ (a0 : eW) (a1 : Int) (a2 : Cred) : Option ((eW × Bool)) :=
  (((if (decide (a1 < 0)) then some true else some ((decide (a1 ≥ 2)))) : Option Bool).bind fun x22 => (if x22 then some (a0, false) else (if (a1 == 0) then (((eC a0.Owner.Creds (fun (x : aV) => gS x a2))).bind fun r38 => (if (decide (r38 < 0)) then some (a0, false) else (((gZ a0.Owner.Creds)).bind fun r44 => (((dS r44 r38)).bind fun x63 => some ((⟨(⟨a0.Owner.Name, (r44.set (Int.toNat r38) ((⟨x63.Signed, (⟨2, 0, (⟨zS, zS⟩ : Role), []⟩ : Formula)⟩ : aV))), a0.Owner.Acks⟩ : bT), (⟨a0.Client.Name, a0.Client.Creds, a0.Client.Acks⟩ : bT), (⟨a0.Formula.Op, a0.Formula.K, a0.Formula.Role, a0.Formula.Kids⟩ : Formula), a0.Plan, a0.Rooms, a0.Timeout, a0.Tries, a0.Budget, a0.Keys⟩ : eW), true))))) else (if (a1 == 1) then (((eC a0.Client.Creds (fun (x : aV) => gS x a2))).bind fun r86 => (if (decide (r86 < 0)) then some (a0, false) else (((gZ a0.Client.Creds)).bind fun r92 => (((dS r92 r86)).bind fun x111 => some ((⟨(⟨a0.Owner.Name, a0.Owner.Creds, a0.Owner.Acks⟩ : bT), (⟨a0.Client.Name, (r92.set (Int.toNat r86) ((⟨x111.Signed, (⟨2, 0, (⟨zS, zS⟩ : Role), []⟩ : Formula)⟩ : aV))), a0.Client.Acks⟩ : bT), (⟨a0.Formula.Op, a0.Formula.K, a0.Formula.Role, a0.Formula.Kids⟩ : Formula), a0.Plan, a0.Rooms, a0.Timeout, a0.Tries, a0.Budget, a0.Keys⟩ : eW), true))))) else none))))
noncomputable def kv (a0 : eW) : Option Bool :=
  (((jQ a0)).bind fun r15 => some (((IntKind.i64.wrap (((r15.1.length : Int)) + ((r15.2.length : Int))))) == 0))
noncomputable def lJ  : Option Bool :=
  (((((gx ((⟨1, (⟨(⟨#[120]⟩ : ByteArray), (⟨#[122]⟩ : ByteArray)⟩ : Role), (⟨#[111, 119, 110]⟩ : ByteArray), (⟨zS, zS⟩ : Role), (⟨zS, zS⟩ : Role), zS⟩ : Cred)) ((⟨(⟨#[120]⟩ : ByteArray), (⟨#[121]⟩ : ByteArray)⟩ : Role)))).bind fun r650 => (((gx ((⟨1, (⟨(⟨#[120]⟩ : ByteArray), (⟨#[121]⟩ : ByteArray)⟩ : Role), (⟨#[99, 108, 105]⟩ : ByteArray), (⟨zS, zS⟩ : Role), (⟨zS, zS⟩ : Role), zS⟩ : Cred)) ((⟨(⟨#[120]⟩ : ByteArray), (⟨#[122]⟩ : ByteArray)⟩ : Role)))).bind fun r664 => some (((⟨#[111, 119, 110]⟩ : ByteArray)), r650, ([]), ((⟨#[99, 108, 105]⟩ : ByteArray)), r664, ([]), 0, 0, ((⟨zS, zS⟩ : Role)), ([]), 0, ((⟨0, 0⟩ : iU)), 0, 0, 0, ([]), zS, ([]), ([]), zS, ([]), ([]), 0, 0, ((⟨zS, zS⟩ : Role)), ([]), 0, ((⟨0, 0⟩ : iU)), 0, 0, 0, ([])))) : Option ((ByteArray × (List aV) × (List eS) × ByteArray × (List aV) × (List eS) × Int × Int × Role × (List Formula) × Int × iU × Int × Int × Int × (List Key) × ByteArray × (List aV) × (List eS) × ByteArray × (List aV) × (List eS) × Int × Int × Role × (List Formula) × Int × iU × Int × Int × Int × (List Key)))).bind fun (x359, l361, l364, x367, l369, l372, x375, x376, x377, l379, x382, x383, x384, x385, x386, l388, x391, l393, l397, x400, l402, l406, x409, x410, x411, l413, x416, x417, x418, x419, x420, l422) => (((jQ ((⟨(⟨x359, l361, l364⟩ : bT), (⟨x367, l369, l372⟩ : bT), (⟨x375, x376, x377, l379⟩ : Formula), x382, x383, x384, x385, x386, l388⟩ : eW)))).bind fun r444 => (((ji ((⟨(⟨x359, l361, l364⟩ : bT), (⟨x367, l369, l372⟩ : bT), (⟨x375, x376, x377, l379⟩ : Formula), x382, x383, x384, x385, x386, l388⟩ : eW)))).bind fun r460 => (((fJ ((⟨(⟨x359, l361, l364⟩ : bT), (⟨x367, l369, l372⟩ : bT), (⟨x375, x376, x377, l379⟩ : Formula), x382, x383, x384, x385, x386, l388⟩ : eW)) 1 ((⟨1, (⟨(⟨#[120]⟩ : ByteArray), (⟨#[121]⟩ : ByteArray)⟩ : Role), (⟨#[99, 108, 105]⟩ : ByteArray), (⟨zS, zS⟩ : Role), (⟨zS, zS⟩ : Role), zS⟩ : Cred)))).bind fun r476 => (((fJ ((⟨(⟨x359, l361, l364⟩ : bT), (⟨x367, l369, l372⟩ : bT), (⟨x375, x376, x377, l379⟩ : Formula), x382, x383, x384, x385, x386, l388⟩ : eW)) 0 ((⟨1, (⟨(⟨#[120]⟩ : ByteArray), (⟨#[121]⟩ : ByteArray)⟩ : Role), (⟨#[99, 108, 105]⟩ : ByteArray), (⟨zS, zS⟩ : Role), (⟨zS, zS⟩ : Role), zS⟩ : Cred)))).bind fun r513 => (((if (((r444.1.length : Int)) == 1) then some ((((r444.2.length : Int)) == 1)) else some false) : Option Bool).bind fun x551 => (((if x551 then some ((((r460.1.length : Int)) == 1)) else some false) : Option Bool).bind fun x562 => (((if x562 then some ((((r460.2.length : Int)) == 1)) else some false) : Option Bool).bind fun x572 => (((if x572 then (((kv ((⟨(⟨x359, l361, l364⟩ : bT), (⟨x367, l369, l372⟩ : bT), (⟨x375, x376, x377, l379⟩ : Formula), x382, x383, x384, x385, x386, l388⟩ : eW)))).bind fun r631 => some ((!r631))) else some false) : Option Bool).bind fun x584 => (((if x584 then some r476.2 else some false) : Option Bool).bind fun x592 => (((if x592 then some ((!r513.2)) else some false) : Option Bool).bind fun x599 => (((if x599 then (((kv r476.1)).bind fun r616 => some r616) else some false) : Option Bool).bind fun x608 => some x608))))))))))))
noncomputable def js (rec : (List Formula) → Option Int) : List Formula → Int → Option Int
  | [], x99 => some x99
  | x74 :: xs75, x99 => (((rec x74.Kids)).bind fun r142 => (js rec xs75 ((IntKind.i64.wrap (x99 + ((IntKind.i64.wrap (((IntKind.i64.wrap (1 + ((IntKind.i64.wrap (Int.tdiv ((IntKind.i64.wrap (((x74.Role.Owner.size : Int)) + ((x74.Role.Word.size : Int))))) 16)))))) + r142))))))))
noncomputable def lM (rec : (List Formula) → Option Int) (a0 : List Formula) : Option Int :=
  js rec a0 0
noncomputable def iH : Nat → (List Formula) → Option Int
  | 0 => fun _ => none
  | n + 1 => lM (iH n)
noncomputable def iD  : List eS → Int → Option Int
  | [], x1086 => some x1086
  | x1042 :: xs1043, x1086 => (((iH bR ([x1042.Release]))).bind fun r1164 => (((na x1042.Closure)).bind fun r1167 => (iD xs1043 ((IntKind.i64.wrap (x1086 + ((IntKind.i64.wrap (((IntKind.i64.wrap (((IntKind.i64.wrap (((x1042.Role.Owner.size : Int)) + ((x1042.Role.Word.size : Int))))) + ((IntKind.i64.wrap (20 * r1164)))))) + r1167)))))))))
noncomputable def iC (a0 : bT) : List aV → Int → Option Int
  | [], x607 => ((iD a0.Acks x607 : Option Int).bind fun x1034 => some x1034)
  | x457 :: xs458, x607 => (((((mQ ([]) ([x457.Signed]))).bind fun r888 => some (r888, ([x457.Release]))) : Option ((Int × (List Formula)))).bind fun (x864, l866) => (((iH bR l866)).bind fun r879 => (iC a0 xs458 ((IntKind.i64.wrap (x607 + ((IntKind.i64.wrap (x864 + ((IntKind.i64.wrap (20 * r879))))))))))))
noncomputable def mS (a0 : bT) : Option Int :=
  iC a0 a0.Creds ((a0.Name.size : Int))
noncomputable def mZ (a0 : eW) : Option Int :=
  (((((mS a0.Owner)).bind fun r134 => (((mS a0.Client)).bind fun r137 => some (((IntKind.i64.wrap (r134 + r137))), ([a0.Formula])))) : Option ((Int × (List Formula)))).bind fun (x113, l115) => (((iH bR l115)).bind fun r124 => (((mQ a0.Keys ([]))).bind fun r127 => some (IntKind.i64.wrap (((IntKind.i64.wrap (x113 + ((IntKind.i64.wrap (20 * r124)))))) + r127)))))
noncomputable def fZ (r250 : List Cred) : List Cred → ByteArray → (List aV) → (List eS) → ByteArray → (List aV) → (List eS) → Int → Int → Role → (List Formula) → Int → iU → Int → Int → Int → (List Key) → Option ((Bool ⊕ ((ByteArray × (List aV) × (List eS) × ByteArray × (List aV) × (List eS) × Int × Int × Role × (List Formula) × Int × iU × Int × Int × Int × (List Key)))))
  | [], x870, l872, l875, x877, l879, l882, x884, x885, x886, l888, x890, x891, x892, x893, x894, l896 => some (Sum.inr (x870, l872, l875, x877, l879, l882, x884, x885, x886, l888, x890, x891, x892, x893, x894, l896))
  | x818 :: xs819, x870, l872, l875, x877, l879, l882, x884, x885, x886, l888, x890, x891, x892, x893, x894, l896 => (((kX r250 x818)).bind fun r994 => (if (!r994) then some (Sum.inl false) else (((fJ ((⟨(⟨x870, l872, l875⟩ : bT), (⟨x877, l879, l882⟩ : bT), (⟨x884, x885, x886, l888⟩ : Formula), x890, x891, x892, x893, x894, l896⟩ : eW)) 1 x818)).bind fun r998 => (fZ r250 xs819 (((r998.1).Owner).Name) (((r998.1).Owner).Creds) (((r998.1).Owner).Acks) (((r998.1).Client).Name) (((r998.1).Client).Creds) (((r998.1).Client).Acks) (((r998.1).Formula).Op) (((r998.1).Formula).K) (((r998.1).Formula).Role) (((r998.1).Formula).Kids) ((r998.1).Plan) ((r998.1).Rooms) ((r998.1).Timeout) ((r998.1).Tries) ((r998.1).Budget) ((r998.1).Keys)))))
noncomputable def fV (r241 : List Cred) : List Cred → ByteArray → (List aV) → (List eS) → ByteArray → (List aV) → (List eS) → Int → Int → Role → (List Formula) → Int → iU → Int → Int → Int → (List Key) → Option ((Bool ⊕ ((ByteArray × (List aV) × (List eS) × ByteArray × (List aV) × (List eS) × Int × Int × Role × (List Formula) × Int × iU × Int × Int × Int × (List Key)))))
  | [], x1090, l1092, l1095, x1097, l1099, l1102, x1104, x1105, x1106, l1108, x1110, x1111, x1112, x1113, x1114, l1116 => some (Sum.inr (x1090, l1092, l1095, x1097, l1099, l1102, x1104, x1105, x1106, l1108, x1110, x1111, x1112, x1113, x1114, l1116))
  | x1038 :: xs1039, x1090, l1092, l1095, x1097, l1099, l1102, x1104, x1105, x1106, l1108, x1110, x1111, x1112, x1113, x1114, l1116 => (((kX r241 x1038)).bind fun r1218 => (if (!r1218) then some (Sum.inl false) else (((fJ ((⟨(⟨x1090, l1092, l1095⟩ : bT), (⟨x1097, l1099, l1102⟩ : bT), (⟨x1104, x1105, x1106, l1108⟩ : Formula), x1110, x1111, x1112, x1113, x1114, l1116⟩ : eW)) 0 x1038)).bind fun r1222 => (fV r241 xs1039 (((r1222.1).Owner).Name) (((r1222.1).Owner).Creds) (((r1222.1).Owner).Acks) (((r1222.1).Client).Name) (((r1222.1).Client).Creds) (((r1222.1).Client).Acks) (((r1222.1).Formula).Op) (((r1222.1).Formula).K) (((r1222.1).Formula).Role) (((r1222.1).Formula).Kids) ((r1222.1).Plan) ((r1222.1).Rooms) ((r1222.1).Timeout) ((r1222.1).Tries) ((r1222.1).Budget) ((r1222.1).Keys)))))
noncomputable def fX (r23 : ((List Cred) × (List Cred))) : List Cred → Option ((Bool ⊕ Unit))
  | [] => some (Sum.inr ())
  | x1262 :: xs1263 => (((kX r23.2 x1262)).bind fun r1304 => (if (!r1304) then some (Sum.inl false) else (fX r23 xs1263)))
noncomputable def fW (r23 : ((List Cred) × (List Cred))) (r39 : ((List Cred) × (List Cred) × Int)) (a0 : eW) : List Cred → Option Bool
  | [] => ((fX r23 r39.2.1 : Option ((Bool ⊕ Unit))).bind fun s => match s with | .inl q1308 => some q1308 | .inr _ => (((jd a0.Owner r23.2 a0.Client.Name)).bind fun r241 => (((jd a0.Client r23.1 a0.Owner.Name)).bind fun r250 => (((jQ a0)).bind fun r259 => ((fV r241 r259.1 a0.Owner.Name a0.Owner.Creds a0.Owner.Acks a0.Client.Name a0.Client.Creds a0.Client.Acks a0.Formula.Op a0.Formula.K a0.Formula.Role a0.Formula.Kids a0.Plan a0.Rooms a0.Timeout a0.Tries a0.Budget a0.Keys : Option ((Bool ⊕ ((ByteArray × (List aV) × (List eS) × ByteArray × (List aV) × (List eS) × Int × Int × Role × (List Formula) × Int × iU × Int × Int × Int × (List Key)))))).bind fun s => match s with | .inl q1257 => some q1257 | .inr (x499, l501, l504, x506, l508, l511, x513, x514, x515, l517, x519, x520, x521, x522, x523, l525) => ((fZ r250 r259.2 x499 l501 l504 x506 l508 l511 x513 x514 x515 l517 x519 x520 x521 x522 x523 l525 : Option ((Bool ⊕ ((ByteArray × (List aV) × (List eS) × ByteArray × (List aV) × (List eS) × Int × Int × Role × (List Formula) × Int × iU × Int × Int × Int × (List Key)))))).bind fun s => match s with | .inl q1033 => some q1033 | .inr (x753, l755, l758, x760, l762, l765, x767, x768, x769, l771, x773, x774, x775, x776, x777, l779) => (if (decide (((IntKind.i64.wrap (((a0.Owner.Acks.length : Int)) + ((a0.Client.Acks.length : Int))))) > 0)) then some true else (((ma ((⟨x753, l755, l758⟩ : bT)) ((⟨x760, l762, l765⟩ : bT)))).bind fun r789 => (((if (decide (((r789.1.length : Int)) ≥ ((r23.1.length : Int)))) then some ((decide (((r789.2.1.length : Int)) ≥ ((r23.2.length : Int))))) else some false) : Option Bool).bind fun x806 => some x806)))))))))
  | x105 :: xs106 => (((kX r23.1 x105)).bind fun r149 => (if (!r149) then some false else (fW r23 r39 a0 xs106)))
noncomputable def kz (a0 : eW) : Option Bool :=
  (lJ.bind fun r15 => (if (!r15) then some false else (((mZ a0)).bind fun r19 => (if (decide (r19 > 6000)) then some true else (((ji a0)).bind fun r23 => (((ma a0.Owner a0.Client)).bind fun r39 => fW r23 r39 a0 r39.1))))))
end Go.Proofs.YtmlncblocfcmiaaGreat
