/- a part of a proof of StuckTells -/
import Derived.Test.YtmlncblocfcmiaaGreatRtVt
import Derived.Shelf.SlSortCmp.NoneTotal
import Derived.Shelf.SortM.Plain
import Derived.Shelf.SortM.SortNone
import Derived.Shelf.SlIter.Sorted
import Derived.Shelf.SlIter.Nil
import Derived.Test.YtmlncblocfcmiaaGreatProg
import Derived.KernelRfl
set_option linter.all false
namespace Go.Proofs.YtmlncblocfcmiaaGreat
open Go.RowKit
section
variable {dd : Bool}
def uN {α : Type} (R : jq α) : bW → List Value → α → Prop := fun μ vs x => ∃ ys, vs = [.agg ys.toArray] ∧ R μ ys x
def oK {α β : Type} (R : jq α) (S : jq β) : bW → List Value → α × β → Prop := fun μ vs x => ∃ ys zs, vs = [.agg ys.toArray, .agg zs.toArray] ∧ R μ ys x.1 ∧ S μ zs x.2
theorem uN.mk {α : Type} {R : jq α} {k : Nat} {μ μ' : bW} {ys : List Value} {x : α} (a : Deep R k) (h : R μ ys x) (b : bO μ μ') : uN R μ' [.agg ys.toArray] x := ⟨ys, rfl, a.mono _ _ _ _ b h⟩
theorem oK.mk {α β : Type} {R : jq α} {S : jq β} {k m : Nat} {μ μ' : bW} {ys zs : List Value} {x : α} {y : β} (d : Deep R k) (g : Deep S m) (h : R μ ys x) (b : S μ zs y) (a : bO μ μ') : oK R S μ' [.agg ys.toArray, .agg zs.toArray] (x, y) :=
  ⟨ys, zs, rfl, d.mono _ _ _ _ a h, g.mono _ _ _ _ a b⟩
def qN {α β : Type} (P : Program) (fv : Value) (μ : bW) (a : bW → List Value → α → Prop) (b : β → Value) (pm : α → Option β) : Prop :=
  ∃ f first caps, fv = .func (.func f) first caps ∧ (∀ args w, (callFunc f args).run P w = .ok (.enter f args) w) ∧ ∀ W x vs r, bO μ (hp W) → a (hp W) vs x → pm x = some r → bF false P f (first.toList ++ (vs ++ caps.toList)) W (b r)
theorem qN.form {α β : Type} {P : Program} {fv : Value} {μ : bW} {d : bW → List Value → α → Prop} {g : β → Value} {pm : α → Option β} (h : qN P fv μ d g pm) : ∃ f a b, fv = .func f a b := let ⟨f, a, b, h, _⟩ := h; ⟨_, a, b, h⟩
end
section
variable {P : Program} {W : World} {E : Nat → Value} {d : Option Nat} {ty : TypeId} {pos : String} {af : Array Edge} {g : Option (Nat × Bool)} {F : Nat → Prop} {w : World} {μ μ0 : bW} {L : List (Nat × Obj)}
theorem qN.mono {α β : Type} {fv : Value} {a : bW → List Value → α → Prop} {b : β → Value} {pm : α → Option β} (h : qN P fv μ a b pm) (j : bO μ μ0) : qN P fv μ0 a b pm := by
  obtain ⟨f, first, caps, d, g, i⟩ := h
  exact ⟨f, first, caps, d, g, fun W x vs r h => i W x vs r (j.trans h)⟩
theorem rV {α β : Type} {K : Value → World → Prop} {fv : Value} {j : bW → List Value → α → Prop} {k : β → Value} {pm : α → Option β} {b : Operand} {ax : Array Operand} {ats : Array TypeId} (x : α) {vs : List Value} {r : β} (a : ST false F w W μ L) (s : qN P fv μ0 j k pm) (u : bO μ0 μ) (q : j (hp W) vs x) (t : aS E b = fv) (ha : ax.map (aS E) ++ (#[] : Array Value) = vs.toArray) (hm : pm x = some r) (h : ∀ W', ST false F w W' μ L → K (k r) W') : fQ P E ⟨d, .call ⟨.value b, ax, ats⟩, ty, pos, af, g⟩ W K := by
  obtain ⟨f, first, caps, rfl, l, m⟩ := s
  have i : ax.map (aS E) = vs.toArray := by simpa using ha
  refine .inr (.inr ⟨f, (first.toList ++ (vs ++ caps.toList)).toArray, ?_, Calls.mono (m W x vs r (u.trans a.aP) q hm) (fun _ _ ⟨n, p⟩ => ⟨_, n, h _ (a.DI p)⟩)⟩)
  show (do let d ← resolve (aS E) ⟨.value b, ax, ats⟩ ty; invoke d.target d.args : Sem Next).run P W = _
  simp only [resolve, t, Deferred.ofValue, Sem.run_bind, Sem.run_pure, Result.andThen_ok, invoke, i, l]
  congr 2
  simp
end
section
variable {dd : Bool}
variable {β : Type} {Rl : jq β} {k : Nat} {μ : bW} {v : Value} {l : List β} {e : TypeId} {B : List (Nat × Obj)}
variable {F : Nat → Prop} {w W : World} {L : List (Nat × Obj)}
variable {P : Program} {E : Nat → Value} {d : Option Nat} {ty : TypeId} {pos : String} {af : Array Edge} {g : Option (Nat × Bool)}
theorem Ee {α : Type} {enc : α → List Value} (d : ∀ x, (enc x).length = k) (g : 0 < k) (i : ∀ x y, enc x = enc y → x = y) : ∀ {l m : List α}, (l.map enc).flatten = (m.map enc).flatten → l = m
  | [], [], _ => rfl
  | [], b :: m, h => by
    have := congrArg List.length h
    simp only [List.map_nil, List.flatten_nil, List.length_nil, List.map_cons, List.flatten_cons, List.length_append, d] at this
    omega
  | a :: l, [], h => by
    have := congrArg List.length h
    simp only [List.map_nil, List.flatten_nil, List.length_nil, List.map_cons, List.flatten_cons, List.length_append, d] at this
    omega
  | a :: l, b :: m, h => by
    simp only [List.map_cons, List.flatten_cons] at h
    obtain ⟨j, n⟩ := List.append_inj h (by rw [d, d])
    rw [i _ _ j, Ee d g i n]
theorem MI (x y : qo k) (h : oH x = oH y) : x = y := Subtype.ext h
theorem bG.pre {v1 : Value} {cl a : List (qo k)} (d : 0 < k) (h : bG e oH k v cl B) (m : bG e oH k v1 a B) (b : a.length ≤ cl.length) : a = cl.take a.length := by
  rcases h with ⟨rfl, rfl, rfl⟩ | ⟨u, cap, cur, rfl, rfl, x, y, z, q⟩
  · simp at b; simp [b]
  · rcases m with ⟨_, _, h⟩ | ⟨w, g, i, rfl, l, r, s, t, j⟩
    · cases h
    · cases l
      refine Ee rT d MI ?_
      rw [← j]
      have hle : a.length * k ≤ cl.length * k := Nat.mul_le_mul_right _ b
      have : cur.toList.take (a.length * k) = (cur.toList.take (cl.length * k)).take (a.length * k) := by rw [List.take_take, Nat.min_eq_left hle]
      rw [this, q]
      have n : (cl.map oH).flatten = ((cl.take a.length).map oH).flatten ++ ((cl.drop a.length).map oH).flatten := by rw [← List.flatten_append, ← List.map_append, List.take_append_drop]
      have p : ((cl.take a.length).map oH).flatten.length = a.length * k := by rw [jo rT, List.length_take, Nat.min_eq_left b]
      rw [n, ← p, List.take_left]
theorem iV.replicate {α β : Type} {Q : α → β → Prop} {a : α} {b : β} (h : Q a b) : ∀ n, iV Q (List.replicate n a) (List.replicate n b)
  | 0 => .nil
  | n + 1 => .cons h (iV.replicate h n)
theorem iV.MP {α β : Type} {Q : α → β → Prop} {l : List α} {m : List β} (h : iV Q l m) {a : α} {b : β} (d : Q a b) (i : Nat) : iV Q (ie l i a) (ie m i b) := by
  unfold ie
  rw [h.length]
  exact (h.take i).append (iV.replicate d _)
theorem xe {t e' : TypeId} {x ih : Operand} {y : IntKind} {i : Int} (s : P.underlying t = some (.slice e')) (he : ∀ w, (sizeOf e').run P w = .ok k w) (u : aS E x = v) (q : aS E ih = .int y i) (h : cM e Rl k μ v l B) (j : 0 ≤ i) (r : i ≤ l.length) :
    ∃ a, cM e Rl k μ a (l.take i.toNat) B ∧ ∀ W, er P E ⟨d, .slice t x none (some ih) none, ty, pos, af, g⟩ W a W := by
  obtain ⟨cl, m, b⟩ := h
  obtain ⟨a, n, p⟩ := yC (d := d) (ty := ty) (pos := pos) (af := af) (g := g) s he u q m rT j (by rw [b.length]; exact r)
  exact ⟨a, ⟨_, n, b.take _⟩, p⟩
theorem uR {t e' : TypeId} {x a : Operand} {s : IntKind} {i : Int} (q : P.underlying t = some (.slice e')) (he : ∀ w, (sizeOf e').run P w = .ok k w) (r : aS E x = v) (n : aS E a = .int s i) (h : cM e Rl k μ v l B) (b : 0 ≤ i) (p : i ≤ l.length) :
    ∃ u, uv k v i.toNat u ∧ ∀ W, er P E ⟨d, .slice t x (some a) none none, ty, pos, af, g⟩ W u W := by
  obtain ⟨cl, j, m⟩ := h
  exact tp q he r n j b (by rw [m.length]; exact p)
theorem F5 {t e' : TypeId} {x : Operand} {u : Value} {i : Nat} (j : P.underlying t = some (.slice e')) (m : aS E x = u) (hu : uv k v i u) (h : cM e Rl k μ v l B) : er P E ⟨d, .call ⟨.builtin .len, #[x], #[t]⟩, ty, pos, af, g⟩ W (.int .i64 ((l.length - i : Nat) : Int)) W := by
  obtain ⟨cl, a, b⟩ := h
  rw [← b.length]
  exact Di j m hu a
theorem vl {t e' : TypeId} {x m : Operand} {I : IntKind} {i : Int} {x0 : β} {u : Value} {o : Nat} {A : List Value → Prop} (z : ∀ {ys}, Rl μ ys x0 → A ys) (F : P.underlying t = some (.slice e')) (he : ∀ w, (sizeOf e').run P w = .ok k w) (G : aS E x = u) (s : aS E m = .int I i) (h : cM e Rl k μ v l B) (hu : uv k v o u) (n : 0 ≤ i) (y : (l.drop o)[i.toNat]? = some x0) :
    ∃ p, (∃ ys, A ys ∧ At (uj B) p ys ∧ uk B k p (o + i.toNat)) ∧ ∀ W, er P E ⟨d, .indexAddr t x m, ty, pos, af, g⟩ W p W := by
  obtain ⟨cl, a, q⟩ := h
  obtain ⟨c, j, D⟩ := (q.drop o).get y
  obtain ⟨p, b, r⟩ := tG (d := d) (ty := ty) (pos := pos) (af := af) (g := g) F he G s a hu n j
  exact ⟨p, ⟨c.1, z D, b.at a rT (uS j), b⟩, r⟩
theorem yU {K : Value → World → Prop} {z : β} {zs : List Value} {Y : List (Nat × Obj)} {t e' : TypeId} {x : Operand} {u j : Value} {i : Nat} (r : Deep Rl k) (b : ST dd F w W μ (B ++ Y)) (h : cM e Rl k μ v l B) (a : Rl μ zs z) (A : P.underlying t = some (.slice e')) (G : ∀ w, (zeroValue e').run P w = .ok j w) (hu : uv k v i u) (y : j.cells = zs.toArray) (D : aS E x = u) (s : ∀ W' R', ST dd F w W' μ (R' ++ Y) → cM e Rl k μ v (ie l i z) R' → K (.tuple #[]) W') : fQ P E ⟨d, .call ⟨.builtin .clear, #[x], #[t]⟩, ty, pos, af, g⟩ W K := by
  obtain ⟨cl, p, q⟩ := h
  exact vT (r.cell a) b p rT IY A G hu y D (fun W' R' m n => s W' R' m ⟨_, n, q.MP a i⟩)
end
section
variable {P : Program} {W : World} {E : Nat → Value} {d : Option Nat} {ty : TypeId} {pos : String} {af : Array Edge} {g : Option (Nat × Bool)}
theorem HL {i p : TypeId} {x y : Operand} {fv : Value} {s u : Array TypeId} {j : Bool} (l : P.underlying i = some (.func s u j)) (h : ∃ f a b, fv = .func f a b) (m : aS E x = fv) (n : aS E y = .nilFunc) :
    er P E ⟨d, .binOp .neq i x y p, ty, pos, af, g⟩ W (.bool true) W := by
  obtain ⟨f, a, b, rfl⟩ := h
  show (do let r ← (do eqGuard .neq i x y (aS E x) (aS E y); binOp .neq i (aS E x) (aS E y)); pure (.value r) : Sem Next).run P W = _
  rw [m, n]
  have k := AG 9999 l f a b W
  simp [eqGuard, binOp, Op.equal, show Op.maxDepth = 9999 + 1 from rfl, k]
end
end Go.Proofs.YtmlncblocfcmiaaGreat
namespace Go.Proofs.YtmlncblocfcmiaaGreat
open Go.RowKit
theorem bS {α β : Type} {m : Option α} {f : α → Option β} {r : β} {G : Prop} (h : m.bind f = some r) (k : ∀ x, m = some x → f x = some r → G) : G :=
  let ⟨x, a, b⟩ := bind_some h
  k x a b
theorem sj {α : Type} {a b : α} (h : some a = some b) : a = b := Option.some.inj h
theorem bC {α : Type} {b : Bool} {x y r : α} {G : Prop} (h : (if b = true then x else y) = r) (a : b = true → x = r → G) (d : b = false → y = r → G) : G := by
  rcases Gh b with e | e
  · exact a e (KR e h)
  · exact d e (LB e h)
theorem cB {a b : Bool} (h : a = b) : Value.bool a = Value.bool b := congrArg Value.bool h
theorem nb {a b : Nat} (h : Nat.ble a b = true := by exact rfl) : a ≤ b := Nat.le_of_ble_eq_true h
def MF : Nat → Nat → List Bool
  | 0, _ => []
  | n + 1, m => (m % 2 == 1) :: MF n (m / 2)
def bm (n m : Nat) : Array Bool := (MF n m).toArray
section
variable {P : Program} {n : Nat} {Q : kj} {E : Nat → Value} {W : World}
theorem CI {α : Type} {co : Operand} {b : Bool} {x y : Code} {A B r : α} (hm : (if b = true then A else B) = r) (a : aS E co = .bool b) (g : b = true → A = r → CW P n x Q E W) (d : b = false → B = r → CW P n y Q E W) : CW P n (.cond co x y) Q E W :=
  Gm a (fun e => g e (KR e hm)) (fun e => d e (LB e hm))
theorem CJ {d ρ : Type} {m : Option d} {k : d → Option ρ} {r : ρ} {x : Code} {K : (Nat → Value) → World → Prop} (hm : m.bind k = some r) (I : d → (Nat → Value) → World → Prop) (g : ∀ s, m = some s → CW P n x (jZ (I s) Q) E W) (i : ∀ s E W, I s E W → k s = some r → K E W) : CW P n x (jZ K Q) E W :=
  let ⟨s, a, b⟩ := bind_some hm
  Hs (I s) (g s a) (fun E W h => i s E W h b)
theorem Mr {g ρ d : Type} {m : Option (d ⊕ g)} {k : d ⊕ g → Option ρ} {r : ρ} {x : Code} {K : (Nat → Value) → World → Prop} (hm : m.bind k = some r) (I : g → (Nat → Value) → World → Prop) (i : ∀ s, m = some s → k s = some r → CW P n x (jZ (fun E W => ∃ t, s = .inr t ∧ I t E W) Q) E W) (j : ∀ s E W, I s E W → k (.inr s) = some r → K E W) : CW P n x (jZ K Q) E W :=
  let ⟨s, a, b⟩ := bind_some hm
  Hs (fun E W => ∃ t, s = .inr t ∧ I t E W) (i s a b) (fun E W ⟨t, e, h⟩ => j t E W h (by subst e; exact b))
theorem LJ {d ρ : Type} {m : Option d} {k : d → Option ρ} {r : ρ} {ops : Array Oper} {rest : List Oper} (hm : m.bind k = some r) (I : d → (Nat → Value) → World → Prop) (j : Nat) (i : ∀ s E W, I s E W → k s = some r → LW P n ops Q (rest.drop j) E W) (g : ∀ s, m = some s → (∀ E W, I s E W → LW P n ops Q (rest.drop j) E W) → LW P n ops Q rest E W) : LW P n ops Q rest E W :=
  let ⟨s, a, b⟩ := bind_some hm
  g s a (fun E W h => i s E W h b)
theorem PJ {d ρ : Type} {m : Option d} {k : d → Option ρ} {r : ρ} {ops : Array Oper} {S : Array Bool → World → Prop} {fuel : Nat} {listed : Array Bool} (hm : m.bind k = some r) (I : d → (Nat → Value) → World → Prop) (i : Array Bool) (g : Nat) (l : ∀ s E W, I s E W → k s = some r → PX P n ops Q S g i E W) (j : ∀ s, m = some s → (∀ E W, I s E W → PX P n ops Q S g i E W) → PX P n ops Q S fuel listed E W) : PX P n ops Q S fuel listed E W :=
  let ⟨s, a, b⟩ := bind_some hm
  j s a (fun E W h => l s E W h b)
end
section
variable {dd : Bool} {P : Program} {fn : Func} {E : Nat → Value} {W w : World} {μ : bW} {L : List (Nat × Obj)}
theorem rP {t : Tmp} {v : Value} (a : ST dd cC w W μ L) (b : fn.results = #[.tmp t] := by exact rfl) (d : E t = v := by exact rfl) : rp P fn (fun e W' => e = .returned v ∧ Ex dd w W') .ret E W := dH b d ⟨rfl, a.ex⟩
end
theorem ST.yg {dd : Bool} {F : Nat → Prop} {w W : World} {μ : bW} {x : Nat × Obj} {L : List (Nat × Obj)} (h : ST dd F w W μ (x :: L)) : ST dd F w W μ ([x] ++ L) := h
theorem ST.IS {dd : Bool} {F : Nat → Prop} {w W : World} {μ : bW} {L : List (Nat × Obj)} (h : ST dd F w W μ L) : ST dd F w W μ ([] ++ L) := h
theorem aL {E : Nat → Value} {ax : Array Operand} {l : List Value} (h : ax.toList.map (aS E) = l) : ax.map (aS E) ++ (#[] : Array Value) = l.toArray := by subst h; apply Array.ext'; simp
section
variable {dd : Bool}
variable {P : Program} {E : Nat → Value} {W : World} {d : Option Nat} {ty : TypeId} {pos : String} {af : Array Edge} {g : Option (Nat × Bool)}
  {F : Nat → Prop} {w : World} {μ : bW} {L : List (Nat × Obj)}
variable {f : FuncId} {fv : Operand} {ax : Array Operand} {ats : Array TypeId} {args : List Value} {v : Value} {K : Value → World → Prop}
theorem Eg (a : ST dd F w W μ L) (he : ∀ args w, (callFunc f args).run P w = .ok (.enter f args) w) (b : bF dd P f args W v) (h : ∀ W', ST dd F w W' μ L → K v W') (i : aS E fv = .func (.func f) #[] #[] := by exact rfl) (ha : ax.toList.map (aS E) = args := by exact rfl) : fQ P E ⟨d, .call ⟨.value fv, ax, ats⟩, ty, pos, af, g⟩ W K := zg a i he (aL ha) b h
theorem jh {α : Type} {e : TypeId} {enc : α → List Value} {k : Nat} {l : List α} {Y : List (Nat × Obj)} (a : ST dd F w W μ Y) (he : ∀ args w, (callFunc f args).run P w = .ok (.enter f args) w) (b : dP dd P f args W e enc k l) (h : ∀ W' v μ' R, ST dd F w W' μ' (R ++ Y) → bO μ μ' → Lo F w μ μ' → bG e enc k v l R → K v W') (i : aS E fv = .func (.func f) #[] #[] := by exact rfl) (ha : ax.toList.map (aS E) = args := by exact rfl) : fQ P E ⟨d, .call ⟨.value fv, ax, ats⟩, ty, pos, af, g⟩ W K := Gt _ a i he (aL ha) b h
theorem tS {K' : Value → List (Nat × Obj) → World → Prop} {L0 L2 : List (Nat × Obj)} (i : ST dd F w W μ L) (j : L.Perm (L0 ++ L2)) (he : ∀ args w, (callFunc f args).run P w = .ok (.enter f args) w) (k : yr L0 W → (L0.map (·.1)).Nodup → bO μ (nK W L0) → (∀ b o, (b, o) ∈ L2 → nK W L0 b = some o) → dV dd P f args W L0 K') (h : ∀ W' v μ' L1, ST dd F w W' μ' (L1 ++ L2) → bO μ μ' → Lo F w μ μ' → (∀ b, W.heap.size ≤ b → ∀ o, nK W' L1 b = some o → μ' b = some o) → K' v L1 W' → K v W') (l : aS E fv = .func (.func f) #[] #[] := by exact rfl) (ha : ax.toList.map (aS E) = args := by exact rfl) : fQ P E ⟨d, .call ⟨.value fv, ax, ats⟩, ty, pos, af, g⟩ W K :=
  J7 L0 L2 i j l he (aL ha) (fun a b c d => by have := k a b c d; simpa using this) h
theorem Fj {K' : Value → List (Nat × Obj) → bW → Prop} {L0 L2 : List (Nat × Obj)} (i : ST dd F w W μ L) (j : L.Perm (L0 ++ L2)) (he : ∀ args w, (callFunc f args).run P w = .ok (.enter f args) w) (k : yr L0 W → (L0.map (·.1)).Nodup → bO μ (nK W L0) → (∀ b o, (b, o) ∈ L2 → nK W L0 b = some o) → dR dd P f args W μ L0 K') (h : ∀ W' v μ' L1, ST dd F w W' μ' (L1 ++ L2) → bO μ μ' → Lo F w μ μ' → K' v L1 μ' → K v W') (l : aS E fv = .func (.func f) #[] #[] := by exact rfl) (ha : ax.toList.map (aS E) = args := by exact rfl) : fQ P E ⟨d, .call ⟨.value fv, ax, ats⟩, ty, pos, af, g⟩ W K :=
  AH L0 L2 i j l he (aL ha) (fun a b c d => by have := k a b c d; simpa using this) h
end
section
variable {E : Nat → Value} {x1 x2 x3 x4 x5 x6 x7 x8 : Operand} {v1 v2 v3 v4 v5 v6 v7 v8 : Value}
theorem MH (a : aS E x1 = v1) : [x1].map (aS E) = [v1] := by rw [← a]; rfl
theorem Nc (a : aS E x1 = v1) (b : aS E x2 = v2) : [x1, x2].map (aS E) = [v1, v2] := by rw [← a, ← b]; rfl
end
theorem MB {i j : Int} {E : Nat → Value} {x : Operand} {k : IntKind} (h : (i == j) = true) (a : aS E x = .int k i) : aS E x = .int k j := by rw [a, eq_of_beq h]
end Go.Proofs.YtmlncblocfcmiaaGreat
namespace Go.Proofs.YtmlncblocfcmiaaGreat
open Go.RowKit
def Jm (R : List (Nat × Obj)) (k : Nat) (p : Value) (i a : Nat) : Prop := ∃ g o, R = [(g, o)] ∧ p = .pointer (some ⟨g, i * k + a, none⟩)
theorem uk.f {R : List (Nat × Obj)} {k : Nat} {p : Value} {i : Nat} (h : uk R k p i) : Jm R k p i 0 := h
section
variable {P : Program} {E : Nat → Value} {W : World} {d : Option Nat} {ty : TypeId} {pos : String} {af : Array Edge} {g : Option (Nat × Bool)}
  {dd : Bool} {F : Nat → Prop} {w : World} {μ : bW} {L : List (Nat × Obj)} {α : Type} {e' : TypeId} {enc : α → List Value} {k : Nat} {v : Value} {l : List α} {R : List (Nat × Obj)}
theorem CT {m : bW} {t : TypeId} {x : Operand} {f off i n : Nat} {p : Value} {ys : List Value} (zs : List Value) (z : dY P t f off) (F : aS E x = p) (D : At m p ys) (hp : Jm R k p i n) (G : (ys.drop off).take zs.length = zs) :
    ∃ r, (At m r zs ∧ Jm R k r i (n + off)) ∧ ∀ W, er P E ⟨d, .fieldAddr t x f, ty, pos, af, g⟩ W r W := by
  obtain ⟨s, I, rfl, rfl⟩ := hp
  obtain ⟨b, o, cs, T, fr, u, v, w⟩ := D
  cases u
  refine ⟨_, ⟨⟨s, (i * k + n) + off, cs, T, fr, rfl, v, fun j y q => ?_⟩, ⟨s, I, rfl, by rw [Nat.add_assoc]⟩⟩, fun W => aO z F⟩
  have A : j < zs.length := (List.getElem?a.1 q).1
  have := w (off + j) y (by
    rw [← G, List.getElem?h A, List.getElem?l] at q
    exact q)
  rw [Nat.add_assoc]
  exact this
theorem bG.put (h : bG e' enc k v l R) (d : ∀ x, (enc x).length = k) {p : Value} {i : Nat} (hp : uk R k p i) {x0 : α} (w : l[i]? = some x0) (x1 : α) :
    ∃ g cur, R = [(g, .cells cur e' (0, 0))] ∧ p = .pointer (some ⟨g, i * k, none⟩) ∧ i * k + k ≤ cur.size ∧ (∀ j y, (enc x0)[j]? = some y → cur[i * k + j]? = some y) ∧
      bG e' enc k v (l.set i x1) [(g, .cells (cur.toList.take (i * k) ++ enc x1 ++ cur.toList.drop (i * k + k)).toArray e' (0, 0))] := by
  have q : i < l.length := (List.getElem?a.1 w).1
  obtain ⟨t, cur, cap, rfl, rfl, u, D, n, E, rfl, F⟩ := vm h d hp w
  have hle : i * k + k ≤ cap * k := by
    have : (i + 1) * k ≤ cap * k := Nat.mul_le_mul_right _ (by omega)
    r [Nat.add_mul, Nat.one_mul] at this
  have b : i * k + k ≤ l.length * k := by
    have : (i + 1) * k ≤ l.length * k := Nat.mul_le_mul_right _ (by omega)
    r [Nat.add_mul, Nat.one_mul] at this
  have hlen : l.length * k ≤ cap * k := Nat.mul_le_mul_right _ u
  refine ⟨t, cur, rfl, rfl, by rw [n]; exact hle, F, .inr ⟨t, cap, _, by simp, rfl, by simpa using u, D, ?_, ?_⟩⟩
  · show ((cur.toList.take (i * k) ++ (enc x1) ++ cur.toList.drop (i * k + k)).toArray).size = _
    have m : cur.toList.length = cap * k := by simpa using n
    rw [List.size_toArray, List.length_append, List.length_append, List.length_take, List.length_drop, d, m, Nat.min_eq_left (by omega)]; omega
  · rw [List.length_set, Ao d l i x1 q, ← E]
    have z : (cur.toList.take (l.length * k)).take (i * k) = cur.toList.take (i * k) := by rw [List.take_take]; congr 1; omega
    have A : (cur.toList.take (l.length * k)).drop (i * k + k) = (cur.toList.drop (i * k + k)).take (l.length * k - (i * k + k)) := by rw [List.drop_take]
    rw [z, A]
    show List.take (l.length * k) (cur.toList.take (i * k) ++ enc x1 ++ cur.toList.drop (i * k + k)) = _
    have m : cur.toList.length = cap * k := by simpa using n
    have s : (cur.toList.take (i * k) ++ enc x1).length = i * k + k := by rw [List.length_append, List.length_take, d, m, Nat.min_eq_left (by omega)]
    rw [List.take_append, List.take_of_length_le (by rw [s]; exact b), s]
theorem IJ {ys us cur : List Value} {a k h : Nat} (r : ys.length = k) (p : ∀ j y, ys[j]? = some y → cur[a + j]? = some y) (n : h + us.length ≤ k) (s : a + k ≤ cur.length) :
    cur.take (a + h) ++ us ++ cur.drop (a + h + us.length) = cur.take a ++ (ys.take h ++ us ++ ys.drop (h + us.length)) ++ cur.drop (a + k) := by
  have e : cur = cur.take a ++ ys ++ cur.drop (a + k) := by
    have m : (cur.drop a).take k = ys := by
      refine List.ext_getElem? fun j => ?_
      by_cases q : j < k
      · rw [List.getElem?g q, List.getElem?i, List.getElem?b (by omega : j < ys.length)]
        exact p j _ (List.getElem?b (by omega))
      · rw [List.getElem?d (by simp; omega), List.getElem?d (by omega)]
    rw [← m, List.append_assoc, ← List.drop_drop, List.take_append_drop, List.take_append_drop]
  have l : (cur.take a).length = a := by rw [List.length_take]; omega
  generalize cur.take a = A at e l
  generalize cur.drop (a + k) = D at e
  subst e
  subst l r
  rw [List.append_assoc A ys D, List.take_length_add_append, Nat.add_assoc, List.drop_length_add_append, List.take_append_of_le_length (by omega), List.drop_append_of_le_length n]
  simp
theorem yY {β : Type} {Rl : jq β} {l : List β} {B : List (Nat × Obj)} {K : Value → World → Prop} {Y : List (Nat × Obj)} {t : TypeId} {x y : Operand} {R p u : Value} {i n : Nat} {x0 x1 : β} {ys : List Value} (us : List Value) (Q : Deep Rl k) (r : ST dd F w W μ (B ++ Y)) (h : cM e' Rl k μ v l B) (hx : aS E x = p) (J : aS E y = u) (hA : At (uj B) R ys) (hlen : ys.length = k) (hp : uk B k R i) (hf : Jm B k p i n) (hl : l[i]? = some x0) (hu : u.cells.toList = us) (I : Rl μ (ys.take n ++ us ++ ys.drop (n + us.length)) x1) (hS : ∀ w, (sizeOf t).run P w = .ok us.length w) (hb : n + us.length ≤ k) (hK : ∀ W' R', ST dd F w W' μ (R' ++ Y) → cM e' Rl k μ v (l.set i x1) R' → K undef W') : fQ P E ⟨d, .store t x y, ty, pos, af, g⟩ W K := by
  obtain ⟨cl, h1, O⟩ := h
  obtain ⟨c, hc, _⟩ := O.get hl
  obtain ⟨M, cur, rfl, rfl, q1, _, q2⟩ := bG.put h1 rT hp hc (Q.cell I)
  obtain ⟨_, _, Z, rfl⟩ := hf
  cases Z
  obtain ⟨b, o, cs, T, fr, e2, L, U⟩ := hA
  cases e2
  have e3 : cs = cur := by
    simp only [uj, List.find?m, beq_self_eq_true, Option.map_some, Option.some.injEq, Obj.cells.injEq] at L
    exact L.1.symm
  subst e3
  have D := (r.box M (.cells cs e' (0, 0)) (by simp)).1
  have q : u.cells.size = us.length := by rw [← hu]; simp
  have G := IJ (us := us) (cur := cs.toList) (a := i * k) hlen (fun j y J => by simpa using U j y J) hb (by simpa using q1)
  refine .inr (.inl ⟨W.setRow M (cs.toList.take (i * k) ++ (ys.take n ++ us ++ ys.drop (n + us.length)) ++ cs.toList.drop (i * k + k)).toArray, ?_, hK _ _ (ST.store (A := []) r _) ⟨_, q2, O.set I i⟩⟩)
  show (do Instr.storeAt t (aS E x) (aS E y); pure .skip : Sem Next).run P W = _
  rw [hx, J]
  have s : ∀ z ∈ us, z.oneCell' = true := fun z hz => Q.one I z (by simp [hz])
  have := te P (off := i * k + n) u (by rw [q]; exact hS) (by rw [hu]; exact s) D (by rw [q]; omega)
  simp only [Sem.run_bind, this, Result.andThen_ok, Sem.run_pure, q]
  rw [hu, G]
end
end Go.Proofs.YtmlncblocfcmiaaGreat
namespace Go.Proofs.YtmlncblocfcmiaaGreat
open Go.RowKit
theorem oc {v : Value} (h : v.cells.toList.all Value.oneCell' = true := by exact rfl) : ∀ u ∈ v.cells.toList, u.oneCell' = true := List.all_eq_true.1 h
theorem dc {p : Prop} [Decidable p] (h : p := by decide) : p := h
theorem kr {p : Prop} (h : p := by a) : p := h
theorem br {α : Sort _} {a b : α} (h : a = b := by rfl) : a = b := h
abbrev LO := List (Nat × Obj)
abbrev Ob (c : Array Value) (t : TypeId) : Obj := .cells c t (0, 0)
abbrev Ol (c : List Value) (t : TypeId) : Obj := .cells c.toArray t (0, 0)
theorem ev {P : Program} {t e : TypeId} {m k : Nat} {z : Value} {a : Array (Nat × Value)} {cs : Array Value} (j : P.underlying t = some (.slice e)) (i : ∀ w, (sizeOf e).run P w = .ok k w) (n : ∀ w, (zeroValue e).run P w = .ok z w) (hm : m * k ≤ 16777216 := by decide) (g : a.toList = (a.toList.map (·.2)).zipIdx.map (fun p => (p.2, p.1)) := by exact rfl) (l : (a.toList.map (·.2)).all (fun v => v.cells.size == k) = true := by exact rfl) (d : (a.toList.map (·.2)).length = m := by exact rfl) (b : ((a.toList.map (·.2)).flatMap (fun v => v.cells.toList)).toArray = cs := by exact rfl) (W : World) :
    (Instr.buildSlice t m a).run P W = .ok (.slice (some ⟨W.heap.size, 0, none⟩) m m) (W.alloc (.cells cs e (0, 0))) :=
  sV _ j i n hm g (fun v h => eq_of_beq (List.all_eq_true.1 l v h)) d b W
section
variable {dd : Bool} {P : Program} {fn : Func} {E : Nat → Value} {W w : World} {μ : bW} {L L0 : List (Nat × Obj)}
theorem rQ {α : Type} {f : α → Value} {a r : α} {t : Tmp} (hm : some a = some r) (b : ST dd cC w W μ L) (d : fn.results = #[.tmp t] := by exact rfl) (g : E t = f a := by exact rfl) : rp P fn (fun e W' => e = .returned (f r) ∧ Ex dd w W') .ret E W := by
  obtain rfl := sj hm; exact dH d g ⟨rfl, b.ex⟩
theorem cG (n : Nat) {f : FuncId} {c : Code} {args : List Value} {v : Value} (a : P.funcs[f]? = some fn) (b : fn.body = some c) (h : ST dd cC w w (hp w) [] → CW P n c (rp P fn (fun e i => e = .returned v ∧ Ex dd w i)) (xt args) w) (g : fn.ntmps = n := by exact rfl) (d : args.length ≤ n := by exact nb) : bF dd P f args w v := tj a b g d (h (ST.start w))
theorem nk {K : Value → List (Nat × Obj) → World → Prop} (n : Nat) {f : FuncId} {c : Code} {args : List Value} (a : P.funcs[f]? = some fn) (d : fn.body = some c) (h : ST dd cC w w (hp w) [] → CW P n c (rp P fn (fun e b => ∃ v L1, e = .returned v ∧ nw dd [] L1 w b ∧ K v L1 b)) (xt args) w) (i : fn.ntmps = n := by exact rfl) (g : args.length ≤ n := by exact nb) : dV dd P f args w [] K := tj a d i g (h (ST.start w))
theorem uV {K : Value → List (Nat × Obj) → World → Prop} (d : gi μ L0 w) (n : Nat) {f : FuncId} {c : Code} {args : List Value} (a : P.funcs[f]? = some fn) (g : fn.body = some c) (h : ST dd (keys L0) w w μ L0 → CW P n c (rp P fn (fun e b => ∃ v L1, e = .returned v ∧ nw dd L0 L1 w b ∧ K v L1 b)) (xt args) w) (j : fn.ntmps = n := by exact rfl) (i : args.length ≤ n := by exact nb) : dV dd P f args w L0 K := tj a g j i (h (ST.HC d))
theorem nc {K : Value → List (Nat × Obj) → bW → Prop} (d : gi μ L0 w) (n : Nat) {f : FuncId} {c : Code} {args : List Value} (a : P.funcs[f]? = some fn) (g : fn.body = some c) (h : ST dd (keys L0) w w μ L0 → CW P n c (rp P fn (fun e b => ∃ v L1 μ1, e = .returned v ∧ nw dd L0 L1 w b ∧ bO μ μ1 ∧ Lo (keys L0) w μ μ1 ∧ bO μ1 (nK b L1) ∧ K v L1 μ1)) (xt args) w) (j : fn.ntmps = n := by exact rfl) (i : args.length ≤ n := by exact nb) : dR dd P f args w μ L0 K := tj a g j i (h (ST.HC d))
end
section
variable {dd : Bool}
variable {P : Program} {E : Nat → Value} {W : World} {d : Option Nat} {ty : TypeId} {pos : String} {af : Array Edge} {g : Option (Nat × Bool)}
  {F : Nat → Prop} {w : World} {μ : bW} {L : List (Nat × Obj)}
variable {f : FuncId} {fv : Operand} {ax : Array Operand} {ats : Array TypeId} {args : List Value} {v : Value} {K : Value → World → Prop}
theorem eM {K' : Value → List (Nat × Obj) → World → Prop} {L0 L2 : List (Nat × Obj)} (i : ST dd F w W μ L) (j : L.Perm (L0 ++ L2)) (he : ∀ args w, (callFunc f args).run P w = .ok (.enter f args) w) (k : gi (nK W L0) L0 W → bO μ (nK W L0) → dV dd P f args W L0 K') (h : ∀ W' v μ' L1, ST dd F w W' μ' (L1 ++ L2) → bO μ μ' → Lo F w μ μ' → (∀ b, W.heap.size ≤ b → ∀ o, nK W' L1 b = some o → μ' b = some o) → K' v L1 W' → K v W') (l : aS E fv = .func (.func f) #[] #[] := by exact rfl) (ha : ax.toList.map (aS E) = args := by exact rfl) : fQ P E ⟨d, .call ⟨.value fv, ax, ats⟩, ty, pos, af, g⟩ W K :=
  tS i j he (fun a b c _ => k ⟨a, b, bO.refl _⟩ c) h l ha
theorem eD {K' : Value → List (Nat × Obj) → bW → Prop} {L0 L2 : List (Nat × Obj)} (i : ST dd F w W μ L) (j : L.Perm (L0 ++ L2)) (he : ∀ args w, (callFunc f args).run P w = .ok (.enter f args) w) (k : gi μ L0 W → dR dd P f args W μ L0 K') (h : ∀ W' v μ' L1, ST dd F w W' μ' (L1 ++ L2) → bO μ μ' → Lo F w μ μ' → K' v L1 μ' → K v W') (l : aS E fv = .func (.func f) #[] #[] := by exact rfl) (ha : ax.toList.map (aS E) = args := by exact rfl) : fQ P E ⟨d, .call ⟨.value fv, ax, ats⟩, ty, pos, af, g⟩ W K :=
  Fj i j he (fun a b c _ => k ⟨a, b, c⟩) h l ha
end
def G6 (op : BinOp) : Value → Value → Option Value
  | .int k a, .int k' b => if k = k' then DH k op a b else none
  | _, _ => none
def KS (i : Nat) : Value → Option Value
  | .tuple vs => vs[i]?
  | _ => none
def DJ : Value → Bool
  | .pointer (some ⟨_, _, none⟩) => true
  | _ => false
def Lj (o : Nat) : Value → Value
  | .pointer (some ⟨b, k, none⟩) => .pointer (some ⟨b, k + o, none⟩)
  | v => v
theorem Da {v : Value} (h : DJ v = true) : ∃ b k, v = .pointer (some ⟨b, k, none⟩) := by
  unfold DJ at h; split at h
  · exact ⟨_, _, rfl⟩
  · cases h
section
variable {P : Program} {n : Nat} {Q : kj} {E : Nat → Value} {W : World} {ops : Array Oper} {rest : List Oper}
  {d j t : Nat} {want b : Bool} {v : Value} {ins : Go.Op} {ty : TypeId} {pos : String} {af : Array Edge} {A : Value → Prop} {x y : Operand}
theorem Wm (h : LW P n ops Q rest (gB E d (aS E x)) W) (a : d < n := by decide) : LW P n ops Q (⟨some d, .move x, ty, pos, af, none⟩ :: rest) E W := V (aQ rfl) h a
theorem Wa (h : LW P n ops Q rest (gB E d (aS E x)) W) (a : d < n := by decide) : LW P n ops Q (⟨some d, .assign x, ty, pos, af, none⟩ :: rest) E W := V (fZ rfl) h a
theorem Wh (b : aS E x = v) (h : LW P n ops Q rest (gB E d v) W) (a : d < n := by decide) : LW P n ops Q (⟨some d, .move x, ty, pos, af, none⟩ :: rest) E W := V (aQ b) h a
theorem Wg (b : aS E x = v) (h : LW P n ops Q rest (gB E d v) W) (a : d < n := by decide) : LW P n ops Q (⟨some d, .assign x, ty, pos, af, none⟩ :: rest) E W := V (fZ b) h a
theorem Wx {i : Nat} (b : KS i (aS E x) = some v) (h : LW P n ops Q rest (gB E d v) W) (g : d < n := by decide) : LW P n ops Q (⟨some d, .extract x i, ty, pos, af, none⟩ :: rest) E W := by
  unfold KS at b; split at b
  · a vs e; exact V (zf e b) h g
  · cases b
theorem Wi {op : BinOp} {q p : TypeId} (i : G6 op (aS E x) (aS E y) = some v) (h : LW P n ops Q rest (gB E d v) W) (m : d < n := by decide) : LW P n ops Q (⟨some d, .binOp op q x y p, ty, pos, af, none⟩ :: rest) E W := by
  unfold G6 at i; split at i
  · g k a k' b j l
    split at i
    · g e; subst e; exact V (cF j l i) h m
    · cases i
  · cases i
theorem Wf {t : TypeId} {f off : Nat} (a : dY P t f off) (h : LW P n ops Q rest (gB E d (Lj off (aS E x))) W) (hp : DJ (aS E x) = true := by exact rfl) (g : d < n := by decide) : LW P n ops Q (⟨some d, .fieldAddr t x f, ty, pos, af, none⟩ :: rest) E W := by
  obtain ⟨b, k, e⟩ := Da hp
  refine V (aO a e) ?_ g
  rw [e] at h; exact h
theorem Wn (h : LW P n ops Q rest (gB E d (aS E x)) W) (hp : DJ (aS E x) = true := by exact rfl) (a : d < n := by decide) : LW P n ops Q (⟨some d, .nilCheck x, ty, pos, af, none⟩ :: rest) E W := by
  obtain ⟨b, k, e⟩ := Da hp
  refine V (fF e) ?_ a
  rw [e] at h; exact h
theorem un (h : b = !want) (k : LW P n ops Q rest (gB E d undef) W) (g : (ops[j]?).bind (·.dst) = some t := by exact rfl) (a : E t = .bool b := by exact rfl) (l : t < n := by decide) (i : d < n := by decide) :
    LW P n ops Q (⟨some d, ins, ty, pos, af, some (j, want)⟩ :: rest) E W := Vn g (by rw [a, h]) k l i
theorem ug (h : b = want) (l : er P E ⟨some d, ins, ty, pos, af, some (j, want)⟩ W v W) (k : LW P n ops Q rest (gB E d v) W) (g : (ops[j]?).bind (·.dst) = some t := by exact rfl) (a : E t = .bool b := by exact rfl) (m : t < n := by decide) (i : d < n := by decide) :
    LW P n ops Q (⟨some d, ins, ty, pos, af, some (j, want)⟩ :: rest) E W := Vg g (by rw [a, h]) l k m i
theorem ki (h : b = want) (k : fQ P E ⟨some d, ins, ty, pos, af, some (j, want)⟩ W fun v W' => LW P n ops Q rest (gB E d v) W') (g : (ops[j]?).bind (·.dst) = some t := by exact rfl) (a : E t = .bool b := by exact rfl) (l : t < n := by decide) (i : d < n := by decide) :
    LW P n ops Q (⟨some d, ins, ty, pos, af, some (j, want)⟩ :: rest) E W := HA g (by rw [a, h]) k l i
theorem Ng (h : b = want) (l : ∃ p, A p ∧ ∀ W, er P E ⟨some d, ins, ty, pos, af, some (j, want)⟩ W p W) (k : ∀ p, A p → LW P n ops Q rest (gB E d p) W) (g : (ops[j]?).bind (·.dst) = some t := by exact rfl) (a : E t = .bool b := by exact rfl) (m : t < n := by decide) (i : d < n := by decide) :
    LW P n ops Q (⟨some d, ins, ty, pos, af, some (j, want)⟩ :: rest) E W := M6 g (by rw [a, h]) l k m i
section
variable {dd : Bool} {F : Nat → Prop} {w : World} {μ : bW} {L : List (Nat × Obj)} {T : TypeId} {a off : Nat} {cs : Array Value} {fr : Nat × Nat}
theorem VA {t : TypeId} (b : ST dd F w W μ L) (i : (a, Obj.cells cs T fr) ∈ L) (ys : List Value) (g : ∀ w, (isAgg t).run P w = .ok true w) (j : ∀ w, (sizeOf t).run P w = .ok ys.length w) (h : LW P n ops Q rest (gB E d (.agg ys.toArray)) W) (l : aS E x = .pointer (some ⟨a, off, none⟩) := by exact rfl) (m : (cs.toList.drop off).take ys.length = ys := by exact rfl) (k : d < n := by decide) : LW P n ops Q (⟨some d, .load t x, ty, pos, af, none⟩ :: rest) E W := V (aH l (aK b.has i ys m g j)) h k
theorem VB {t : TypeId} (b : ST dd F w W μ L) (i : (a, Obj.cells cs T fr) ∈ L) (k : aS E x = .pointer (some ⟨a, off, none⟩)) (l : cs[off]? = some v) (g : ∀ w, (isAgg t).run P w = .ok false w) (h : LW P n ops Q rest (gB E d v) W) (j : d < n := by decide) : LW P n ops Q (⟨some d, .load t x, ty, pos, af, none⟩ :: rest) E W := V (aH k (bA b.has i l g)) h j
end
section
variable {K : (Nat → Value) → World → Prop} {Q' : kj} {c : Code} {id id2 : Nat} {l : List Oper} {z : Code}
theorem sg (h : LW P n l.toArray (jZ (fun E W => CW P n c Q E W) Q) l E W) : CW P n (.seq (.region id l.toArray false) c) Q E W := aW (aU h)
theorem ln (h : K E W) : LW P n ops (jZ K Q) [] E W := bK (aR h)
theorem lr (h : LW P n l.toArray (jZ (fun E W => CW P n c Q E W) Q) l E W) : LW P n ops (jZ (fun E W => CW P n (.seq (.region id l.toArray false) c) Q E W) Q') [] E W := bK (aR (aW (aU h)))
theorem lS (h : LW P n l.toArray (jZ (fun E W => CW P n c (jZ (fun E W => CW P n z Q E W) Q) E W) (jZ (fun E W => CW P n z Q E W) Q)) l E W) : LW P n ops (jZ (fun E W => CW P n (.seq (.seq (.region id l.toArray false) c) z) Q E W) Q') [] E W := bK (aR (aW (aW (aU h))))
theorem bg (h : LW P n l.toArray (jZ (fun E W => CW P n c (pT id2 Q) E W) (pT id2 Q)) l E W) : CW P n (.block id2 (.seq (.region id l.toArray false) c)) Q E W := dN (aW (aU h))
theorem kg (h : LW P n l.toArray (jZ (fun E W => CW P n c Q E W) Q) l E W) : CW P n .skip (jZ (fun E W => CW P n (.seq (.region id l.toArray false) c) Q E W) Q') E W := cZ (aR (aW (aU h)))
theorem kS (h : LW P n l.toArray (jZ (fun E W => CW P n c (jZ (fun E W => CW P n z Q E W) Q) E W) (jZ (fun E W => CW P n z Q E W) Q)) l E W) : CW P n .skip (jZ (fun E W => CW P n (.seq (.seq (.region id l.toArray false) c) z) Q E W) Q') E W := cZ (aR (aW (aW (aU h))))
theorem lt (h : Q .ret E W) : LW P n ops (jZ (fun E W => CW P n .ret Q E W) Q') [] E W := bK (aR (bH h))
theorem kn (h : K E W) : CW P n .skip (jZ K Q) E W := cZ (aR h)
end
end
end Go.Proofs.YtmlncblocfcmiaaGreat
namespace Go.Proofs.YtmlncblocfcmiaaGreat
open Go.Sort Go.Proofs Go.Shelf
theorem Aw {g b : Nat} {o : Obj} : keys [(g, o)] b ↔ b = g := by
  constructor
  · rintro ⟨a, h⟩
    simp at h
    exact h.1
  · rintro rfl; exact ⟨o, by simp⟩
theorem we (w : World) (g m : Nat) (f : Array Value → Array Value) (os : Array Obj) (b : Nat) (k : b < w.heap.size) :
    (Go.Sort.grow (a (Go.Sort.ahead w m) g f) os).heap[b]? = if g = b then w.heap[b]?.map (i f) else w.heap[b]? := by
  have j : b < (a (Go.Sort.ahead w m) g f).heap.size := by simp only [a, Go.Sort.ahead, Array.size_modify]; exact k
  rw [d _ _ j]
  simp only [a, Go.Sort.ahead, Array.getElem?h]
theorem Fc {w : World} {g m : Nat} {f : Array Value → Array Value} {os : Array Obj} {cs : Array Value} {T : TypeId} {fr : Nat × Nat} (k : w.heap[g]? = some (.cells cs T fr)) :
    nw true [(g, .cells cs T fr)] [(g, .cells (f cs) T fr)] w (Go.Sort.grow (d (Go.Sort.ahead w m) g f) os) := by
  have j : g < w.heap.size := (Array.getElem?a.1 k).1
  refine ⟨⟨rfl, rfl, rfl, ?_, ?_, fun b l n => ?_⟩, fun b o h => ?_, by simp⟩
  · refine nu.of ?_
    show w.drawn ≤ w.drawn + m
    omega
  · show w.heap.size ≤ (w.heap.modify g (i f) ++ os).size
    simp
  · rw [we _ _ _ _ _ _ l, if_neg fun h => n (Aw.2 h.symm)]
  · simp only [List.mem_cons, List.not_mem_nil, or_false, Prod.mk.injEq] at h
    obtain ⟨rfl, rfl⟩ := h
    refine ⟨?_, .inr (Aw.2 rfl)⟩
    rw [we _ _ _ _ _ _ j, if_pos rfl, k]
    rfl
theorem Gb {w W : World} (h : Ex true w W) : ∃ q os, W = Go.Sort.grow (w.drewN q) os := by
  refine ⟨W.drawn - w.drawn, W.heap.extract w.heap.size W.heap.size, ?_⟩
  have m : W.heap = w.heap ++ W.heap.extract w.heap.size W.heap.size := by
    apply Array.ext_getElem?
    intro i
    rw [Array.getElem?g]
    split
    · a n; exact h.eO i n
    · a n
      rw [Array.getElem?d]
      have r := h.size
      split
      · rw [show w.heap.size + (i - w.heap.size) = i by omega]
      · exact Array.getElem?b (by omega)
  obtain ⟨s, t, u, v, x⟩ := W
  have j := h.os; have k := h.tape; have l := h.output; have p := h.drawn rfl
  simp only at j k l p m
  unfold Go.Sort.grow World.drewN
  simp only [World.mk.injEq]
  exact ⟨m, k, by omega, j, l⟩
theorem FR {α : Type} [Inhabited α] {enc : α → List Value} {k : Nat} (q : ∀ x, (enc x).length = k) (l : List α) (j : Nat) (h : j < l.length * k) :
    (l.map enc).flatten[j]? = some ((g enc k l.toArray)[j]!) := by
  have r : 0 < k := by
    cases k with
    | zero => simp at h
    | succ n => omega
  have i : j / k < l.length := (Nat.div_lt_iff_lt_mul r).2 h
  rw [b _ _ _ _ (by simpa using h)]
  have s : l.toArray[j / k]! = l[j / k] := by
    rw [getElem!d l.toArray (j / k) (by simpa using i)]; simp
  rw [s]
  have m : j % k < (enc l[j / k]).length := by rw [q]; exact Nat.mod_lt _ r
  have p := pS q l (j / k) l[j / k] (List.getElem?a i) (j % k) ((enc l[j / k])[j % k]) (List.getElem?a m)
  rw [Nat.div_add_mod' j k] at p
  rw [p, getElem!d (enc l[j / k]) (j % k) m]
theorem Dp {α : Type} [Inhabited α] {enc : α → List Value} {k : Nat} (n : ∀ x, (enc x).length = k) {w : World} {g : Nat} {cs : Array Value} {T : TypeId} (i : w.heap[g]? = some (.cells cs T (0, 0))) (l : List α)
    (p : cs.toList.take (l.length * k) = (l.map enc).flatten) : b enc k w g 0 l.toArray := by
  intro j m
  have a : j < l.length * k := by simpa using m
  have h := FR n l j a
  rw [← p, List.getElem?d, if_pos a] at h
  refine ⟨?_, ?_⟩
  · simp only [World.cell?, i, Nat.zero_add]
    simpa using h
  · simp [World.frozen?, i]
theorem Fb {α : Type} [Inhabited α] {enc : α → List Value} {k : Nat} (r : ∀ x, (enc x).length = k) {cs : Array Value} (l : List α) (s : l.length * k ≤ cs.size) :
    (a id 0 (p enc k l.toArray) cs).toList.take (l.length * k) = (l.map enc).flatten := by
  apply List.ext_getElem?
  intro j
  rw [List.getElem?n]
  split
  · b q
    rw [FR r l j q]
    simp only [a, Array.getElem?m, Array.getElem?i, g, List.size_toArray]
    rw [Array.getElem?d (by omega)]
    simp [q]
  · b q
    rw [List.getElem?h (by rw [jo r]; omega)]
theorem Dl (enc : Value → Value) (o : Nat) (d c : Array Value) : (a enc o d c).size = c.size := by simp [a]
section
variable {α : Type} {P : Program} {ρ : Ren}
theorem Kp {l : List α} {cf : α × α → Option Int} (h : yE cf l) : SWO (a fun (x y : {x // x ∈ l}) => (cf (x.1, y.1)).getD 0) ∧
    (∀ x y : {x // x ∈ l}, a (fun (x y : {x // x ∈ l}) => (cf (x.1, y.1)).getD 0) x y = nF cf x.1 y.1) := by
  have e : ∀ x y : {x // x ∈ l}, a (fun (x y : {x // x ∈ l}) => (cf (x.1, y.1)).getD 0) x y = nF cf x.1 y.1 := fun x y => by
    obtain ⟨c, j⟩ := h.is x.1 x.2 y.1 y.2
    simp [a, nF, j]
  refine ⟨⟨fun x => ?_, fun x y z => ?_, fun x y z => ?_⟩, e⟩
  · rw [e]; exact h.irrefl _ x.2
  · rw [e, e, e]; exact h.trans _ x.2 _ y.2 _ z.2
  · rw [e, e, e]
    intro i d
    cases b : nF cf x.1 z.1 with
    | false => rfl
    | true =>
      cases g : nF cf y.1 x.1 with
      | true =>
        have := h.trans _ y.2 _ x.2 _ z.2 g b
        rw [d] at this; cases this
      | false =>
        have := h.total _ x.2 _ y.2 i g
        rw [this, d] at b; cases b
theorem E9 (L : SlLaysF0.n6 P ρ) (k : Nat) (aE : ∀ w, (isAgg (ρ.t 24)).run P w = .ok true w) (zE : ∀ w, (Go.sizeOf (ρ.t 24)).run P w = .ok k w) {e : TypeId} (enc : α → List Value) (hk : ∀ x, (enc x).length = k) (h1 : ∀ x, ∀ u ∈ enc x, u.oneCell' = true) {v fv : Value} {l r : List α} {R : List (Nat × Obj)} {cf : α × α → Option Int} {w : World} {μ0 : bW} (hH : yr (R ++ []) w) (M : bO μ0 (nK w (R ++ []))) (hr : bG e enc k v l R) (hc : Mx P fv μ0 (fun (x : α × α) => [(.agg (enc x.1).toArray), (.agg (enc x.2).toArray)]) (fun (r : Int) => (.int .i64 r)) cf) (hm : tF cf l = some r) :
    dV true P (ρ.f 6) [v, fv] w (R ++ []) (fun u L1 _ => ∃ (S : List (Nat × Obj)), u = (.tuple #[]) ∧ L1 = (S ++ []) ∧ bG e enc k v r S) := by
  obtain ⟨ok, rfl⟩ := Be hm
  rw [List.append_nil] at hH M ⊢
  rcases Nat.eq_zero_or_pos l.length with h0 | A
  · have hl : l = [] := List.eq_nil_of_length_eq_zero h0
    subst hl
    have hs : mW cf ([] : List α) = [] := by simp [mW]
    rw [hs]
    obtain ⟨p, c, rfl⟩ : ∃ p c, v = .slice p 0 c := by
      rcases hr with ⟨rfl, _, _⟩ | ⟨g, cap, cur, rfl, _⟩
      · exact ⟨_, _, rfl⟩
      · exact ⟨_, _, rfl⟩
    refine Calls.mono (ae.slices_SortFunc_none L p c fv w) fun x w' ⟨hx, hw⟩ => ?_
    subst hx hw
    refine ⟨_, R, rfl, ⟨⟨rfl, rfl, rfl, nu.of (Nat.le_refl _), Nat.le_refl _, fun _ _ _ => rfl⟩, fun b o h => ⟨hH b o h, .inr ⟨o, h⟩⟩, ?_⟩, R, rfl, (List.append_nil R).symm, hr⟩
    rcases hr with ⟨_, _, rfl⟩ | ⟨g, cap, cur, _, rfl, _⟩ <;> simp
  · rcases hr with ⟨_, rfl, _⟩ | ⟨g, cap, cur, rfl, rfl, a7, a6, W, ab⟩
    · simp at A
    have hg : w.heap[g]? = some (.cells cur e (0, 0)) := hH g _ (by simp)
    have a8 : g < w.heap.size := (Array.getElem?d.1 hg).1
    haveI : Inhabited {x // x ∈ l} := ⟨⟨l[0], List.getElem_mem A⟩⟩
    obtain ⟨gg, caps, rfl, Y, F⟩ := hc
    obtain ⟨hO, Z⟩ := Kp ok
    have O : l.attach.toArray.size = l.length := by simp
    have a9 : l.attach.map (fun x => enc x.1) = l.map enc := by
      rw [show (fun x : {x // x ∈ l} => enc x.1) = enc ∘ Subtype.val from rfl, ← List.map_map, List.attach_map_subtype_val]
    have a4 : a3 (fun x : {x // x ∈ l} => enc x.1) k w g 0 l.attach.toArray := Dp (fun x => hk x.1) hg l.attach (by rw [a9, List.length_attach, ab])
    have U : I P gg caps (fun x : {x // x ∈ l} => enc x.1) k (fun x y => (cf (x.1, y.1)).getD 0) g 0 l.attach.toArray.size w := by
      intro m os dk ag x y
      obtain ⟨c, T⟩ := ok.is x.1 x.2 y.1 y.2
      have a2 : bO μ0 (hp (i (fun x : {x // x ∈ l} => enc x.1) k w g 0 m dk os)) := fun b o hb => by
        have J := M b o hb
        unfold nK at J
        split at J
        · cases J
        · G hn
          have a5 : b < w.heap.size := (Array.getElem?d.1 J).1
          show (Go.Sort.grow (j (Go.Sort.ahead w m) g _) os).heap[b]? = _
          rw [we _ _ _ _ _ _ a5, if_neg fun h => hn (Aw.2 h.symm)]
          exact J
      have h3 := F (i (fun x : {x // x ∈ l} => enc x.1) k w g 0 m dk os) (x.1, y.1) c a2 T
      have ea : ([Value.agg (enc x.1).toArray, Value.agg (enc y.1).toArray] ++ caps.toList).toArray = #[Value.agg (enc x.1).toArray, Value.agg (enc y.1).toArray] ++ caps := by
        apply Array.ext'; simp
      rw [← ea]
      exact Calls.mono h3 fun u W' hu => ⟨by rw [hu.1]; show _ = Ending.returned (.int .i64 ((cf (x.1, y.1)).getD 0)); rw [T]; rfl, Gb hu.2⟩
    have hT : ∀ x y : {x // x ∈ l}, D (fun (x y : {x // x ∈ l}) => (cf (x.1, y.1)).getD 0) x y = false → D (fun (x y : {x // x ∈ l}) => (cf (x.1, y.1)).getD 0) y x = false → x = y := fun x y a b => by
      rw [Z] at a b
      exact Subtype.ext (ok.total _ x.2 _ y.2 a b)
    have z := af.slices_SortFunc_total L k aE zE (fun x : {x // x ∈ l} => enc x.1) (fun x => hk x.1) (fun x => h1 x.1) (fun x y => (cf (x.1, y.1)).getD 0) hO gg caps g 0 cap l.attach.toArray w Y U a4 a8 (by rw [O]; exact ok.short) hT
    rw [O] at z
    refine Calls.mono z fun u w' ⟨hu, n, os, hw⟩ => ?_
    subst hu
    generalize hs : l.attach.toArray.toList.mergeSort (fun x y => !D (fun (x y : {x // x ∈ l}) => (cf (x.1, y.1)).getD 0) y x) = s at hw
    have aa : s.map Subtype.val = mW cf l := by
      rw [← hs, List.map_mergeSort (s := fun x y => !nF cf y x) (fun a _ b _ => by rw [Z])]
      simp [mW]
    have a1 : s.length = l.length := by rw [← hs, List.length_mergeSort]; simp
    have a0 : (mW cf l).length = l.length := by simp [mW, List.length_mergeSort]
    have Q := Fc (w := w) (m := n) (f := q id 0 (E (fun x : {x // x ∈ l} => enc x.1) k s.toArray)) (os := os) hg
    have ad : w' = Go.Sort.grow (j (Go.Sort.ahead w n) g (q id 0 (E (fun x : {x // x ∈ l} => enc x.1) k s.toArray))) os := hw
    rw [← ad] at Q
    refine ⟨_, _, rfl, Q, _, rfl, (List.append_nil _).symm, .inr ⟨g, cap, _, by rw [a0], rfl, by omega, a6, by rw [Dl, W], ?_⟩⟩
    rw [a0, ← a1, Fb (fun x => hk x.1) s (by rw [a1, W]; exact Nat.mul_le_mul_right k a7), ← aa, List.map_map]
    rfl
end
end Go.Proofs.YtmlncblocfcmiaaGreat
namespace Go.Proofs.YtmlncblocfcmiaaGreat
open Go.Sort Go.Proofs Go.Shelf
theorem xX (b : ByteArray) : b.toList = b.data.toList := by rw [ByteArray.toList_eq]
theorem Lm (l : List ByteArray) : (l.map mG).flatten = l.map Value.string := by
  induction l with
  | nil => rfl
  | cons x l ih => simp only [List.map_cons, List.flatten_cons, ih]; rfl
theorem IV (l : List ByteArray) : (oq l).map (fun b => b.data.toList) = (l.map (fun b => b.data.toList)).mergeSort (fun x y => decide (x ≤ y)) := by
  unfold oq
  refine List.map_mergeSort fun a _ b _ => ?_
  unfold jz
  rw [d, xX, xX]
  by_cases h : a.data.toList ≤ b.data.toList
  · have g : ¬ b.data.toList < a.data.toList := List.not_lt.2 h
    simp [h, g]
  · have g : b.data.toList < a.data.toList := by
      cases Decidable.em (b.data.toList < a.data.toList) with
      | inl i => exact i
      | inr i => exact absurd (List.not_lt.1 i) h
    simp [h, g]
end Go.Proofs.YtmlncblocfcmiaaGreat
namespace Go.Proofs.YtmlncblocfcmiaaGreat
open Go.WideElems Go.WideShapes Go.Sort Go.Proofs Go.Shelf
theorem E1 {β : Type} {vf : β → Value} {P : Program} {kt : TypeId} (F : P.underlying kt = some .string) {l : List (ByteArray × β)} {es : Array MapEntry} {clock : Nat} (h : nY Value.string vf l es clock) (A : (l.map (·.1)).Nodup) (E : ∀ p ∈ l, p.1.size ≤ maxLen) (z : l.length ≤ maxLen) {W : World} {b : Nat} (y : W.heap[b]? = some (.map es clock)) : ∃ D : DataW Unit, W.ownsMap P kt (fun _ => some (.lit (.bool true), [])) b es.size D ∧ (strKeys D).Perm (l.map (fun p => p.1.data.toList)) ∧ Maps.size D = l.length := by
  have d := h.keys
  have r : ∀ x ∈ es.toList, ∃ s : ByteArray, x.key = .string s ∧ s.size ≤ maxLen := fun x m => by
    have i : x.key ∈ es.toList.map (·.key) := List.mem_map.2 ⟨x, m, rfl⟩
    rw [d] at i
    obtain ⟨s, k, n⟩ := List.mem_map.1 i
    obtain ⟨p, u, w⟩ := List.mem_map.1 k
    exact ⟨s, n.symm, by rw [← w]; exact E p u⟩
  have j : ∀ x ∈ es.toList, ∃ s : ByteArray, x.key = .string s ∧ Go.WideElems.rd (H := Unit) P kt (fun _ => some (.lit (.bool true), [])) x = some (.string s.data.toList, .lit (.bool true)) := fun x m => by
    obtain ⟨s, i, k⟩ := r x m
    refine ⟨s, i, ?_⟩
    simp [Go.WideElems.rd, keyOf, F, mapKey, i, k]
  refine ⟨_, ⟨es, clock, y, ⟨by rw [h.length]; exact z, ⟨h.lt, ?_, ?_⟩, fun x m => ?_⟩, Nat.le_refl _, rfl⟩, ?_, ?_⟩
  · have := h.born
    rw [List.Nodup, List.pairwise_map]
    exact this.imp (fun {a b} h => by omega)
  · rw [d]
    rw [List.Nodup, List.pairwise_map]
    exact A.imp (fun {a b} q e => q (by injection e))
  · obtain ⟨s, _, k⟩ := j x m
    exact ⟨_, k⟩
  · have i := (sorted_perm (es.toList.map (Go.WideElems.rg (H := Unit) P kt (fun _ => some (.lit (.bool true), []))))).map (fun p => g p.1)
    refine List.Perm.trans i ?_
    have e : (es.toList.map (Go.WideElems.rg (H := Unit) P kt (fun _ => some (.lit (.bool true), [])))).map (fun p => g p.1) = l.map (fun p => p.1.data.toList) := by
      have t : (es.toList.map (Go.WideElems.rg (H := Unit) P kt (fun _ => some (.lit (.bool true), [])))).map (fun p => g p.1) = (es.toList.map (·.key)).map (fun v => match v with | .string s => s.data.toList | _ => []) := by
        rw [List.map_map, List.map_map]
        refine List.map_congr_left fun x m => ?_
        obtain ⟨s, k, n⟩ := j x m
        simp [Go.WideElems.rg, n, k, g]
      rw [t, d, List.map_map, List.map_map]
      rfl
    rw [e]
  · have i := (sorted_perm (es.toList.map (Go.WideElems.rg (H := Unit) P kt (fun _ => some (.lit (.bool true), []))))).length_eq
    show (List.foldr DataW.insert [] _).length = _
    rw [i, List.length_map, ← h.length]
    simp
theorem Dq {l : List ByteArray} {i : List (List UInt8)} (h : i.Perm (l.map fun b => b.data.toList)) : i.mergeSort (fun x y => decide (x ≤ y)) = (oq l).map (fun b => b.data.toList) := by
  rw [IV]
  have le : ∀ a b c : List UInt8, decide (a ≤ b) = true → decide (b ≤ c) = true → decide (a ≤ c) = true := fun a b c d g => by
    simp only [decide_eq_true_eq] at *
    exact List.le_trans d g
  have tot : ∀ a b : List UInt8, (decide (a ≤ b) || decide (b ≤ a)) = true := fun a b => by
    simp only [Bool.or_eq_true, decide_eq_true_eq]
    exact List.le_total a b
  refine List.Perm.eq_of_pairwise (le := fun a b => decide (a ≤ b) = true) (fun a b _ _ d g => List.le_antisymm (by simpa using d) (by simpa using g)) (List.pairwise_mergeSort le tot _) (List.pairwise_mergeSort le tot _) ?_
  exact (List.mergeSort_perm _ _).trans (h.trans (List.mergeSort_perm _ _).symm)
section
variable {P : Program} {ρk ρt ρm : Ren}
theorem Fe (LK : SlLaysZ.n7 P ρk) (LT : SlLaysZ.n6 P ρt) (LM : SlLaysM.n6 P ρm) (h9 : ρt.f 9 = ρm.f 6) (hK : P.underlying (ρk.t 26) = some .string) (eg : ∀ args w, (callFunc (ρk.f 10) args).run P w = .ok (.enter (ρk.f 10) args) w) (es : ∀ args w, (callFunc (ρt.f 9) args).run P w = .ok (.enter (ρt.f 9) args) w) {β : Type} {vf : β → Value} {l : List (ByteArray × β)} {b : Nat} {mv : Value} {t : TypeId} {W : World} {r : List ByteArray} (G : W.heap[b]? = some (.cells #[mv] t (0, 0))) (hm : pI Value.string vf (hp W) mv l) (Y : Bh l = some r) :
    dP false P (ρt.f 6) [.func (.func (ρk.f 10)) #[] #[.pointer (some ⟨b, 0, none⟩)]] W (ρt.t 26) mG 1 r := by
  unfold Bh at Y
  split at Y
  case isFalse => cases Y
  I hc
  obtain ⟨a0, a1, a2⟩ := hc
  cases Y
  have q : b < W.heap.size := (Array.getElem?k.1 G).1
  have j : W.cell? ⟨b, 0, none⟩ = some mv := by simp [World.cell?, G]
  have A : i.SortsIn P ρt Fence.wide 4 :=
    ⟨fun Z off cap n W hH M E => callsIn_wide.2 (by rw [h9]; exact L.slices_Sort_string LM Z off cap n W hH M E), fun p cap W => callsIn_wide.2 (by rw [h9]; exact L.slices_Sort_string_none LM p cap W)⟩
  have T : F Fence.wide 2 P (ρk.f 10) #[.pointer (some ⟨b, 0, none⟩)] d (fun n => n.Perm ((l.map (·.1)).map fun b => b.data.toList)) l.length W := by
    rcases hm with ⟨rfl, rfl⟩ | ⟨m, es, clock, rfl, a5, O⟩
    · have := i.keys_gives_nil (ρ := ρk) { LK with } Fence.wide 2 trivial rfl b W q j
      intro l' J W' hW hJ hY U
      refine CallsIn.mono (this l' J W' hW hJ hY U) ?_
      rintro e w' ⟨hv, n, rfl, hj⟩
      exact ⟨hv, [], List.Perm.refl _, hj⟩
    · obtain ⟨D, Q, z, E⟩ := E1 hK O a0 a1 (by unfold maxLen; omega) a5
      have := i.keys_gives (ρ := ρk) { LK with } Fence.wide 2 trivial rfl (by omega) b m es.size D W q j Q
      intro l' J W' hW hJ hY U
      refine CallsIn.mono (this l' J W' hW hJ (by rw [E]; exact hY) U) ?_
      rintro e w' ⟨hv, n, hp, hj⟩
      refine ⟨hv, n, ?_, hj⟩
      rw [List.map_map]
      exact hp.trans z
  have cS := i.sorted_in LT Fence.wide 5 trivial trivial trivial trivial rfl (by omega) A es (ρk.f 10) #[.pointer (some ⟨b, 0, none⟩)] trivial eg _ l.length (by unfold maxLen; omega) a2 W T
  refine Calls.mono (callsIn_wide.1 cS) ?_
  rintro e w' ⟨v, n, rfl, hS, R, a7, a⟩
  have hs := Dq hS
  have hlen : n.length = (oq (l.map (·.1))).length := by
    have := congrArg List.length hs
    simpa using this
  have u : (n.mergeSort (fun x y => decide (x ≤ y))).map d = ((oq (l.map (·.1))).map mG).flatten := by
    rw [hs, Lm, List.map_map]
    refine List.map_congr_left (fun x _ => ?_)
    simp only [Function.comp, d]
  rcases R.2 with ⟨rfl, U⟩ | ⟨g, cap, cur, rfl, s, hg, a8, a3, a4, a6⟩
  · have : oq (l.map (·.1)) = [] := List.eq_nil_of_length_eq_zero (by omega)
    rw [this]
    exact ⟨_, [], rfl, nw.DF ⟨a.os, a.tape, a.output, fun h => (by cases h), a.size, fun b G => a.block b G⟩ (fun _ _ h => by cases h) (by simp), bG.nil _ _ _⟩
  · refine ⟨_, [(g, .cells cur (ρt.t 26) (0, 0))], rfl, nw.DF ⟨a.os, a.tape, a.output, fun h => (by cases h), a.size, fun b G => a.block b G⟩ (fun b o h => by simp at h; obtain ⟨rfl, rfl⟩ := h; exact ⟨hg, s⟩) (by simp), .inr ⟨g, cap, cur, by rw [hlen], rfl, by omega, a3, a4, ?_⟩⟩
    rw [← hlen, a6, u]
end
end Go.Proofs.YtmlncblocfcmiaaGreat
namespace Go.Proofs.YtmlncblocfcmiaaGreat
def GV : Go.Shelf.Ren := ⟨fun | 6 => 230 | 15 => 322 | 14 => 321 | 28 => 367 | 29 => 368 | 20 => 359 | 21 => 360 | 22 => 361 | 23 => 362 | 24 => 363 | 25 => 364 | 26 => 365 | 27 => 366 | 46 => 410 | 47 => 411 | 48 => 412 | 49 => 413 | 50 => 414 | 57 => 449 | n => n, fun | 22 => 22 | 24 => 53 | 25 => 194 | 3 => 3 | 39 => 353 | 0 => 0 | 53 => 389 | 55 => 309 | 4 => 4 | 46 => 383 | 45 => 382 | 50 => 39 | 5 => 5 | 9 => 9 | 66 => 419 | 70 => 423 | 76 => 446 | 77 => 274 | n => n, fun | n => n⟩
theorem Kt : Go.Proofs.SlLaysF0.n6 Tryz.prog GV := {
  mixed := by a,
  f6 := ⟨Tryz.f230.name, by decide, Tryz.func230.trans (congrArg some (by a))⟩,
  r := ⟨Tryz.f321.name, by decide, Tryz.func321.trans (congrArg some (by a))⟩,
  s := Tryz.func322.trans (congrArg some (by a)),
  t := ⟨Tryz.f359.name, by decide, Tryz.func359.trans (congrArg some (by a))⟩,
  u := ⟨Tryz.f360.name, by decide, Tryz.func360.trans (congrArg some (by a))⟩,
  v := ⟨Tryz.f361.name, by decide, Tryz.func361.trans (congrArg some (by a))⟩,
  w := ⟨Tryz.f362.name, by decide, Tryz.func362.trans (congrArg some (by a))⟩,
  x := ⟨Tryz.f363.name, by decide, Tryz.func363.trans (congrArg some (by a))⟩,
  y := ⟨Tryz.f364.name, by decide, Tryz.func364.trans (congrArg some (by a))⟩,
  z := ⟨Tryz.f365.name, by decide, Tryz.func365.trans (congrArg some (by a))⟩,
  A := ⟨Tryz.f366.name, by decide, Tryz.func366.trans (congrArg some (by a))⟩,
  D := Tryz.func367.trans (congrArg some (by a)),
  E := Tryz.func368.trans (congrArg some (by a)),
  F := ⟨Tryz.f410.name, by decide, Tryz.func410.trans (congrArg some (by a))⟩,
  G := Tryz.func411.trans (congrArg some (by a)),
  I := Tryz.func412.trans (congrArg some (by a)),
  J := ⟨Tryz.f413.name, by decide, Tryz.func413.trans (congrArg some (by a))⟩,
  L := ⟨Tryz.f414.name, by decide, Tryz.func414.trans (congrArg some (by a))⟩,
  M := ⟨Tryz.f449.name, by decide, Tryz.func449.trans (congrArg some (by a))⟩,
  t0 := Tryz.underlying0,
  a0 := Tryz.isAgg0,
  z0 := Tryz.sizeOf0,
  v0 := Tryz.zeroValue0,
  t3 := Tryz.underlying3,
  a3 := Tryz.isAgg3,
  z3 := Tryz.sizeOf3,
  v3 := Tryz.zeroValue3,
  t4 := Tryz.underlying4,
  a4 := Tryz.isAgg4,
  z4 := Tryz.sizeOf4,
  v4 := Tryz.zeroValue4,
  t5 := Tryz.underlying5,
  a5 := Tryz.isAgg5,
  z5 := Tryz.sizeOf5,
  v5 := Tryz.zeroValue5,
  t9 := Tryz.underlying9,
  a9 := Tryz.isAgg9,
  z9 := Tryz.sizeOf9,
  v9 := Tryz.zeroValue9,
  O := Tryz.underlying22,
  b := Tryz.isAgg22,
  ak := Tryz.sizeOf22,
  a6 := Tryz.zeroValue22,
  P := Tryz.underlying194,
  d := Tryz.isAgg194,
  al := Tryz.sizeOf194,
  a7 := Tryz.zeroValue194,
  Q := Tryz.underlying353,
  g := Tryz.isAgg353,
  an := Tryz.sizeOf353,
  a8 := Tryz.zeroValue353,
  R := Tryz.underlying382,
  h := Tryz.isAgg382,
  ao := Tryz.sizeOf382,
  aa := Tryz.zeroValue382,
  T := Tryz.underlying383,
  i := Tryz.isAgg383,
  ap := Tryz.sizeOf383,
  ab := Tryz.zeroValue383,
  U := Tryz.underlying39,
  j := Tryz.isAgg39,
  aq := Tryz.sizeOf39,
  ad := Tryz.zeroValue39,
  t53 := Tryz.underlying389,
  k := Tryz.isAgg389,
  ar := Tryz.sizeOf389,
  ae := Tryz.zeroValue389,
  W := Tryz.underlying309,
  l := Tryz.isAgg309,
  au := Tryz.sizeOf309,
  af := Tryz.zeroValue309,
  Y := Tryz.underlying419,
  m := Tryz.isAgg419,
  av := Tryz.sizeOf419,
  ag := Tryz.zeroValue419,
  Z := Tryz.underlying423,
  n := Tryz.isAgg423,
  aw := Tryz.sizeOf423,
  ah := Tryz.zeroValue423,
  a1 := Tryz.underlying446,
  p := Tryz.isAgg446,
  ay := Tryz.sizeOf446,
  ai := Tryz.zeroValue446,
  a2 := Tryz.underlying274,
  q := Tryz.isAgg274,
  az := Tryz.sizeOf274,
  aj := Tryz.zeroValue274}
def La : Go.Shelf.Ren := ⟨fun | 6 => 273 | 8 => 322 | 9 => 343 | 19 => 367 | 20 => 368 | 21 => 396 | 22 => 397 | 23 => 398 | 24 => 399 | 25 => 400 | 26 => 401 | 27 => 402 | 28 => 403 | 29 => 404 | 36 => 426 | 31 => 411 | 32 => 412 | 37 => 427 | 38 => 428 | 39 => 429 | 41 => 454 | n => n, fun | 27 => 82 | 29 => 9 | 3 => 3 | 32 => 353 | 26 => 82 | 0 => 0 | 44 => 389 | 46 => 309 | 4 => 4 | 36 => 383 | 35 => 382 | 41 => 39 | 5 => 5 | 9 => 9 | 53 => 419 | 57 => 423 | 63 => 446 | 64 => 274 | n => n, fun | n => n⟩
theorem Kw : Go.Proofs.SlLaysM.n6 Tryz.prog La := {
  mixed := by a,
  f6 := ⟨Tryz.f273.name, by decide, Tryz.func273.trans (congrArg some (by a))⟩,
  f8 := Tryz.func322.trans (congrArg some (by a)),
  f9 := ⟨Tryz.f343.name, by decide, Tryz.func343.trans (congrArg some (by a))⟩,
  s := Tryz.func367.trans (congrArg some (by a)),
  t := Tryz.func368.trans (congrArg some (by a)),
  u := ⟨Tryz.f396.name, by decide, Tryz.func396.trans (congrArg some (by a))⟩,
  v := ⟨Tryz.f397.name, by decide, Tryz.func397.trans (congrArg some (by a))⟩,
  w := ⟨Tryz.f398.name, by decide, Tryz.func398.trans (congrArg some (by a))⟩,
  x := ⟨Tryz.f399.name, by decide, Tryz.func399.trans (congrArg some (by a))⟩,
  y := ⟨Tryz.f400.name, by decide, Tryz.func400.trans (congrArg some (by a))⟩,
  z := ⟨Tryz.f401.name, by decide, Tryz.func401.trans (congrArg some (by a))⟩,
  A := ⟨Tryz.f402.name, by decide, Tryz.func402.trans (congrArg some (by a))⟩,
  D := ⟨Tryz.f403.name, by decide, Tryz.func403.trans (congrArg some (by a))⟩,
  E := ⟨Tryz.f404.name, by decide, Tryz.func404.trans (congrArg some (by a))⟩,
  F := Tryz.func411.trans (congrArg some (by a)),
  f32 := Tryz.func412.trans (congrArg some (by a)),
  G := ⟨Tryz.f426.name, by decide, Tryz.func426.trans (congrArg some (by a))⟩,
  I := ⟨Tryz.f427.name, by decide, Tryz.func427.trans (congrArg some (by a))⟩,
  J := ⟨Tryz.f428.name, by decide, Tryz.func428.trans (congrArg some (by a))⟩,
  L := ⟨Tryz.f429.name, by decide, Tryz.func429.trans (congrArg some (by a))⟩,
  M := ⟨Tryz.f454.name, by decide, Tryz.func454.trans (congrArg some (by a))⟩,
  t0 := Tryz.underlying0,
  a0 := Tryz.isAgg0,
  z0 := Tryz.sizeOf0,
  v0 := Tryz.zeroValue0,
  t3 := Tryz.underlying3,
  a3 := Tryz.isAgg3,
  z3 := Tryz.sizeOf3,
  v3 := Tryz.zeroValue3,
  t4 := Tryz.underlying4,
  a4 := Tryz.isAgg4,
  z4 := Tryz.sizeOf4,
  v4 := Tryz.zeroValue4,
  t5 := Tryz.underlying5,
  a5 := Tryz.isAgg5,
  z5 := Tryz.sizeOf5,
  v5 := Tryz.zeroValue5,
  t9 := Tryz.underlying9,
  a9 := Tryz.isAgg9,
  z9 := Tryz.sizeOf9,
  v9 := Tryz.zeroValue9,
  O := Tryz.underlying82,
  b := Tryz.isAgg82,
  an := Tryz.sizeOf82,
  a7 := Tryz.zeroValue82,
  P := Tryz.underlying82,
  d := Tryz.isAgg82,
  ao := Tryz.sizeOf82,
  a8 := Tryz.zeroValue82,
  Q := Tryz.underlying9,
  g := Tryz.isAgg9,
  ap := Tryz.sizeOf9,
  aa := Tryz.zeroValue9,
  R := Tryz.underlying353,
  h := Tryz.isAgg353,
  aq := Tryz.sizeOf353,
  ab := Tryz.zeroValue353,
  T := Tryz.underlying382,
  i := Tryz.isAgg382,
  ar := Tryz.sizeOf382,
  ad := Tryz.zeroValue382,
  U := Tryz.underlying383,
  j := Tryz.isAgg383,
  au := Tryz.sizeOf383,
  ae := Tryz.zeroValue383,
  W := Tryz.underlying39,
  k := Tryz.isAgg39,
  av := Tryz.sizeOf39,
  af := Tryz.zeroValue39,
  Y := Tryz.underlying389,
  l := Tryz.isAgg389,
  aw := Tryz.sizeOf389,
  ag := Tryz.zeroValue389,
  Z := Tryz.underlying309,
  m := Tryz.isAgg309,
  ay := Tryz.sizeOf309,
  ah := Tryz.zeroValue309,
  t53 := Tryz.underlying419,
  n := Tryz.isAgg419,
  az := Tryz.sizeOf419,
  ai := Tryz.zeroValue419,
  a1 := Tryz.underlying423,
  p := Tryz.isAgg423,
  aE := Tryz.sizeOf423,
  aj := Tryz.zeroValue423,
  a2 := Tryz.underlying446,
  q := Tryz.isAgg446,
  b0 := Tryz.sizeOf446,
  ak := Tryz.zeroValue446,
  a6 := Tryz.underlying274,
  r := Tryz.isAgg274,
  b1 := Tryz.sizeOf274,
  al := Tryz.zeroValue274}
def Js : Go.Shelf.Ren := ⟨fun | 7 => 234 | 10 => 327 | n => n, fun | 23 => 296 | 26 => 9 | 3 => 4 | 28 => 223 | 0 => 0 | 27 => 222 | 33 => 214 | 4 => 4 | n => n, fun | n => n⟩
theorem JB : Go.Proofs.SlLaysZ.n7 Tryz.prog Js := {
  mixed := by a,
  D := ⟨Tryz.f234.name, by decide, Tryz.func234.trans (congrArg some (by a))⟩,
  j := ⟨Tryz.f327.name, by decide, Tryz.func327.trans (congrArg some (by a))⟩,
  E := Tryz.underlying0,
  z := Tryz.isAgg0,
  G := Tryz.sizeOf0,
  v0 := Tryz.zeroValue0,
  F := Tryz.underlying4,
  A := Tryz.isAgg4,
  I := Tryz.sizeOf4,
  v4 := Tryz.zeroValue4,
  k := Tryz.underlying296,
  b := Tryz.isAgg296,
  u := Tryz.sizeOf296,
  p := Tryz.zeroValue296,
  l := Tryz.underlying9,
  d := Tryz.isAgg9,
  v := Tryz.sizeOf9,
  q := Tryz.zeroValue9,
  m := Tryz.underlying222,
  g := Tryz.isAgg222,
  w := Tryz.sizeOf222,
  r := Tryz.zeroValue222,
  t28 := Tryz.underlying223,
  h := Tryz.isAgg223,
  x := Tryz.sizeOf223,
  s := Tryz.zeroValue223,
  n := Tryz.underlying214,
  i := Tryz.isAgg214,
  y := Tryz.sizeOf214,
  t := Tryz.zeroValue214}
def Jt : Go.Shelf.Ren := ⟨fun | 6 => 159 | 8 => 272 | 9 => 273 | 11 => 342 | 13 => 322 | 12 => 343 | 23 => 367 | 24 => 368 | 14 => 396 | 15 => 397 | 16 => 398 | 17 => 399 | 18 => 400 | 19 => 401 | 20 => 402 | 21 => 403 | 22 => 404 | 25 => 426 | 26 => 411 | 27 => 412 | 28 => 427 | 29 => 428 | 30 => 429 | 31 => 454 | n => n, fun | 26 => 9 | 28 => 223 | 24 => 82 | 0 => 0 | 3 => 3 | 37 => 353 | 48 => 389 | 50 => 309 | 4 => 4 | 40 => 383 | 39 => 382 | 45 => 39 | 5 => 5 | 9 => 9 | 51 => 419 | 55 => 423 | 57 => 446 | 58 => 274 | 33 => 214 | n => n, fun | n => n⟩
theorem JP : Go.Proofs.SlLaysZ.n6 Tryz.prog Jt := {
  mixed := by a,
  s := ⟨Tryz.f159.name, by decide, Tryz.func159.trans (congrArg some (by a))⟩,
  t := ⟨Tryz.f272.name, by decide, Tryz.func272.trans (congrArg some (by a))⟩,
  f11 := ⟨Tryz.f342.name, by decide, Tryz.func342.trans (congrArg some (by a))⟩,
  u := Tryz.underlying0,
  r := Tryz.isAgg0,
  v := Tryz.sizeOf0,
  v0 := Tryz.zeroValue0,
  i := Tryz.underlying82,
  b := Tryz.isAgg82,
  n := Tryz.sizeOf82,
  k := Tryz.zeroValue82,
  j := Tryz.underlying9,
  d := Tryz.isAgg9,
  p := Tryz.sizeOf9,
  l := Tryz.zeroValue9,
  t28 := Tryz.underlying223,
  g := Tryz.isAgg223,
  q := Tryz.sizeOf223,
  m := Tryz.zeroValue223,
  h := by a}
end Go.Proofs.YtmlncblocfcmiaaGreat
namespace Go.Proofs.YtmlncblocfcmiaaGreat
open Go.RowKit
set_option maxRecDepth 10000
structure aA where
  aC : ByteArray
  aJ : ByteArray
def aM (x : aA) : List Value := [.string x.aC, .string x.aJ]
def bB (x y : aA) : Bool := (dA x.aC y.aC) && ((dA x.aJ y.aJ) && true)
theorem bD {x y : aA} : bB x y = true ↔ x = y := by
  cases x; cases y; simp [bB, eB]
theorem rD (x : aA) : (aM x).length = 2 := rfl
theorem pn (x : aA) : ∀ u ∈ aM x, u.oneCell' = true := by
  intro u hu
  simp only [aM, List.mem_cons, List.not_mem_nil, or_false] at hu
  rcases hu with rfl | rfl <;> rfl
structure aB where
  Kind : Int
  Head : aA
  cH : ByteArray
  B : aA
  C : aA
  cO : ByteArray
def aG (x : aB) : List Value := [.int .i64 x.Kind, .string x.Head.aC, .string x.Head.aJ, .string x.cH, .string x.B.aC, .string x.B.aJ, .string x.C.aC, .string x.C.aJ, .string x.cO]
def bT (x y : aB) : Bool := (x.Kind == y.Kind) && ((bB x.Head y.Head) && ((dA x.cH y.cH) && ((bB x.B y.B) && ((bB x.C y.C) && ((dA x.cO y.cO) && true)))))
theorem eU {x y : aB} : bT x y = true ↔ x = y := by
  cases x; cases y; simp [bT, eB, bD]
theorem bI (x : aB) : (aG x).length = 9 := rfl
theorem fC (x : aB) : ∀ u ∈ aG x, u.oneCell' = true := by
  intro u hu
  simp only [aG, List.mem_cons, List.not_mem_nil, or_false] at hu
  rcases hu with rfl | rfl | rfl | rfl | rfl | rfl | rfl | rfl | rfl <;> rfl
structure aV where
  aA : aA
  cH : ByteArray
def bZ (x : aV) : List Value := [.string x.aA.aC, .string x.aA.aJ, .string x.cH]
def uJ (x y : aV) : Bool := (bB x.aA y.aA) && ((dA x.cH y.cH) && true)
theorem tu {x y : aV} : uJ x y = true ↔ x = y := by
  cases x; cases y; simp [uJ, eB, bD]
theorem kA (x : aV) : (bZ x).length = 3 := rfl
theorem sN (x : aV) : ∀ u ∈ bZ x, u.oneCell' = true := by
  intro u hu
  simp only [bZ, List.mem_cons, List.not_mem_nil, or_false] at hu
  rcases hu with rfl | rfl | rfl <;> rfl
structure rF where
  oA : Int
  ox : Int
def Bb (x : rF) : List Value := [.int .i64 x.oA, .int .i64 x.ox]
structure cL where
  e : Int
def dT (x : cL) : List Value := [.int .i64 x.e]
structure cY where
  I1 : Bool
def eJ (x : cY) : List Value := [.bool x.I1]
structure Key where
  cH : ByteArray
  Key : List Int
structure Signed where
  aB : aB
  Tag : List Int
structure Formula where
  Op : Int
  K : Int
  aA : aA
  Kids : List Formula
structure cI where
  Signed : Signed
  aI : Formula
structure gM where
  aA : aA
  aI : Formula
  eQ : List aB
structure cR where
  Name : ByteArray
  aT : List cI
  bP : List gM
structure fK where
  aC : cR
  Client : cR
  Formula : Formula
  mj : Int
  fg : rF
  gl : Int
  jD : Int
  ig : Int
  Keys : List Key
noncomputable def gV (a : ByteArray) (b : Int) : Option Int :=
  some (qw a b)
noncomputable def kQ (a : ByteArray) (b : Int) : Option Int :=
  (((gV a b)).bind fun d => some d)
noncomputable def om  : List Int → Option Bool
  | [] => some true
  | d :: a => (((kQ ((⟨#[97, 98, 99, 100, 101, 102, 103, 104, 105, 106, 107, 108, 109, 110, 111, 112, 113, 114, 115, 116, 117, 118, 119, 120, 121, 122, 48, 49, 50, 51, 52, 53, 54, 55, 56, 57, 45]⟩ : ByteArray)) d)).bind fun b => (if (decide (b < 0)) then some false else (om a)))
noncomputable def vU (a : ByteArray) : Option Bool :=
  (((wG a)).bind fun b => om b)
noncomputable def lT (a : ByteArray) : Option Bool :=
  (((if (decide (((a.size : Int)) ≥ 1)) then some ((decide (((a.size : Int)) ≤ 16))) else some false) : Option Bool).bind fun x2 => (((if x2 then (((ue a 0)).bind fun b => (((kQ ((⟨#[97, 98, 99, 100, 101, 102, 103, 104, 105, 106, 107, 108, 109, 110, 111, 112, 113, 114, 115, 116, 117, 118, 119, 120, 121, 122]⟩ : ByteArray)) ((b.toNat : Int)))).bind fun g => some ((decide (g ≥ 0))))) else some false) : Option Bool).bind fun h => (((if h then (((vU a)).bind fun d => some d) else some false) : Option Bool).bind fun i => some i)))
noncomputable def nB (a : List Int) : Option (List Int) :=
  (((eS 1 ([]) a)).bind fun b => some b)
noncomputable def jy (d : aA) : Option Bool :=
  (((lT d.aC)).bind fun g => (((if g then (((lT d.aJ)).bind fun a => some a) else some false) : Option Bool).bind fun b => some b))
noncomputable def fX (a b : ByteArray) : Option Int :=
  some (iO a b)
noncomputable def jc (a b : ByteArray) : Option Int :=
  (((fX a b)).bind fun d => some d)
noncomputable def lU  : List Int → Option Int
  | [] => some 0
  | a :: b => (if (a != 0) then some a else (lU b))
noncomputable def ol (a : List Int) : Option Int :=
  lU a
noncomputable def kY (g h : aA) : Option Int :=
  (((jc g.aC h.aC)).bind fun a => (((jc g.aJ h.aJ)).bind fun b => (((ol ([a, b]))).bind fun d => some d)))
noncomputable def nj (a : aB) : Option Bool :=
  (((jy a.Head)).bind fun z => (((if (a.Kind == 1) then (((if z then (((lT a.cH)).bind fun d => some d) else some false) : Option Bool).bind fun q => some (Sum.inr (q, ((⟨a.Kind, a.Head, a.cH, (⟨zS, zS⟩ : aA), (⟨zS, zS⟩ : aA), zS⟩ : aB))))) else (if (a.Kind == 2) then (((if z then (((jy a.B)).bind fun g => some g) else some false) : Option Bool).bind fun r => some (Sum.inr (r, ((⟨a.Kind, a.Head, zS, a.B, (⟨zS, zS⟩ : aA), zS⟩ : aB))))) else (if (a.Kind == 3) then (((if z then (((jy a.B)).bind fun i => some i) else some false) : Option Bool).bind fun t => (((if t then some ((dA a.B.aC a.Head.aC)) else some false) : Option Bool).bind fun u => (((if u then (((lT a.cO)).bind fun h => some h) else some false) : Option Bool).bind fun v => some (Sum.inr (v, ((⟨a.Kind, a.Head, zS, a.B, (⟨zS, zS⟩ : aA), a.cO⟩ : aB))))))) else (if (a.Kind == 4) then (((if z then (((jy a.B)).bind fun l => some l) else some false) : Option Bool).bind fun w => (((if w then (((jy a.C)).bind fun k => some k) else some false) : Option Bool).bind fun x => (((if x then (((kY a.B a.C)).bind fun j => some ((decide (j < 0)))) else some false) : Option Bool).bind fun y => some (Sum.inr (y, ((⟨a.Kind, a.Head, zS, a.B, a.C, zS⟩ : aB))))))) else some (Sum.inl false))))) : Option ((Bool ⊕ ((Bool × aB))))).bind fun s => match s with | .inl b => some b | .inr (m, n) => (((if m then some ((bT n a)) else some false) : Option Bool).bind fun p => some p)))
noncomputable def jx  : Nat → Int → (List Int) → Option ((Bool × (List Int)))
  | 0, _, _ => none
  | h + 1, a, d => (if (decide (a ≥ 128)) then (((eS 1 d ([(IntKind.u8.wrap (BitVec.ofInt (IntKind.bits .u8) ((IntKind.u8.wrap a)) ||| BitVec.ofInt (IntKind.bits .u8) 128).toNat)]))).bind fun g => (jx h ((Int.fdiv a (2 ^ min (Int.toNat 7) (IntKind.bits .i64)))) g)) else (((eS 1 d ([(IntKind.u8.wrap a)]))).bind fun b => some (true, b)))
noncomputable def gz (a : List Int) (b : Int) : Option ((Bool × (List Int))) :=
  (if (decide (b < 0)) then some (false, a) else jx bL b a)
noncomputable def qE (a b : List Int) : Option ((Bool × (List Int))) :=
  (if (decide (((b.length : Int)) > 2048)) then some (false, a) else (((gz a ((b.length : Int)))).bind fun g => (((eS 1 g.2 b)).bind fun d => some (true, d))))
noncomputable def na (a : List Int) (i : ByteArray) : Option ((Bool × (List Int))) :=
  (((lT i)).bind fun j => (((if j then (((wG i)).bind fun g => (((qE a g)).bind fun b => some (b.1, b.2))) else some (false, a)) : Option ((Bool × (List Int)))).bind fun (h, d) => some (h, d)))
noncomputable def jw (a : List Int) (h : aA) : Option ((Bool × (List Int))) :=
  (((jy h)).bind fun l => (((if l then (((na a h.aC)).bind fun g => some (g.1, g.2)) else some (false, a)) : Option ((Bool × (List Int)))).bind fun (j, b) => (((if j then (((na b h.aJ)).bind fun d => some (d.1, d.2)) else some (false, b)) : Option ((Bool × (List Int)))).bind fun (k, i) => some (k, i))))
noncomputable def nl (a : List Int) : Option (List Int) :=
  (((nB a)).bind fun b => some b)
noncomputable def pR (a : aB) : Option (List Int) :=
  (((nj a)).bind fun n => (if (!n) then some [] else (((gz ([]) a.Kind)).bind fun p => (((jw p.2 a.Head)).bind fun b => (((if (a.Kind == 1) then (((na b.2 a.cH)).bind fun h => some h.2) else (if (a.Kind == 2) then (((jw b.2 a.B)).bind fun i => some i.2) else (if (a.Kind == 3) then (((jw b.2 a.B)).bind fun j => (((na j.2 a.cO)).bind fun k => some k.2)) else (if (a.Kind == 4) then (((jw b.2 a.B)).bind fun l => (((jw l.2 a.C)).bind fun m => some m.2)) else some b.2)))) : Option (List Int)).bind fun d => (((nl d)).bind fun g => some g))))))
noncomputable def iy (a : List aB) : Option (List aB) :=
  (((eS 136 ([]) a)).bind fun b => some b)
noncomputable def gZ (h : aB → Option Bool) : List aB → Nat → Option Int
  | [], _ => some (-1)
  | g :: b, a => (((h g)).bind fun d => (if d then some (a : Int) else (gZ h b (a + 1))))
noncomputable def nv (a : List aB) (b : aB → Option Bool) : Option Int :=
  gZ b a 0
noncomputable def ga (l : aB → Option Bool) : Nat → (List aB) → Int → Int → Option (List aB)
  | 0, _, _, _ => none
  | i + 1, b, a, d => (if (decide (d < ((b.length : Int)))) then (((((dU b d)).bind fun g => (((l g)).bind fun j => (if (!j) then (((dU b a)).bind fun m => some (((b.set (Int.toNat a) g)), ((IntKind.i64.wrap (a + 1))))) else some (b, a)))) : Option (((List aB) × Int))).bind fun (h, k) => (ga l i h k ((IntKind.i64.wrap (d + 1))))) else (((lR (decide (0 ≤ a) && decide (a ≤ (b.length : Int))))).bind fun _ => (((lR (decide (0 ≤ a) && decide (a ≤ (((ie b (Int.toNat a) (⟨0, (⟨zS, zS⟩ : aA), zS, (⟨zS, zS⟩ : aA), (⟨zS, zS⟩ : aA), zS⟩ : aB))).length : Int))))).bind fun _ => some (((ie b (Int.toNat a) (⟨0, (⟨zS, zS⟩ : aA), zS, (⟨zS, zS⟩ : aA), (⟨zS, zS⟩ : aA), zS⟩ : aB))).take (Int.toNat a)))))
noncomputable def gF (a : List aB) (d : aB → Option Bool) : Option (List aB) :=
  (((nv a d)).bind fun b => (if (b == ((-1))) then some a else ga d bL a b ((IntKind.i64.wrap (b + 1)))))
noncomputable def ri (a : aB) : Option Bool :=
  (((nj a)).bind fun b => some (!b))
noncomputable def pH (a b : List Int) : Option Int :=
  some (rI a b)
noncomputable def mT (g h : aB) : Option Int :=
  (((pR g)).bind fun a => (((pR h)).bind fun b => (((pH a b)).bind fun d => some d)))
noncomputable def gE (b : Int) : Nat → (List aB) → Int → Int → Option (((List aB) × Int))
  | 0, _, _, _ => none
  | i + 1, a, d, g => (if (decide (g < (((a.length - (Int.toNat b) : Nat) : Int)))) then (((((dU (a.drop (Int.toNat b)) g)).bind fun k => (((dU (a.drop (Int.toNat b)) ((IntKind.i64.wrap (g - 1))))).bind fun l => (if (!(bT k l)) then (((dU (a.drop (Int.toNat b)) g)).bind fun m => (((dU a d)).bind fun n => some (((a.set (Int.toNat d) m)), ((IntKind.i64.wrap (d + 1)))))) else some (a, d)))) : Option (((List aB) × Int))).bind fun (h, j) => (gE b i h j ((IntKind.i64.wrap (g + 1))))) else some (a, d))
noncomputable def gG (g : List aB) : Nat → Int → Option (List aB)
  | 0, _ => none
  | h + 1, a => (if (decide (a < ((g.length : Int)))) then (((dU g a)).bind fun i => (((dU g ((IntKind.i64.wrap (a - 1))))).bind fun j => (if (bT i j) then (((lR (decide (0 ≤ a) && decide (a ≤ (g.length : Int))))).bind fun _ => ((gE a bL g a 1 : Option (((List aB) × Int))).bind fun (d, b) => (((lR (decide (0 ≤ b) && decide (b ≤ (d.length : Int))))).bind fun _ => (((lR (decide (0 ≤ b) && decide (b ≤ (((ie d (Int.toNat b) (⟨0, (⟨zS, zS⟩ : aA), zS, (⟨zS, zS⟩ : aA), (⟨zS, zS⟩ : aA), zS⟩ : aB))).length : Int))))).bind fun _ => some (((ie d (Int.toNat b) (⟨0, (⟨zS, zS⟩ : aA), zS, (⟨zS, zS⟩ : aA), (⟨zS, zS⟩ : aA), zS⟩ : aB))).take (Int.toNat b)))))) else (gG g h ((IntKind.i64.wrap (a + 1))))))) else some g)
noncomputable def lX (a : List aB) : Option (List aB) :=
  (if (decide (((a.length : Int)) < 2)) then some a else gG a bL 1)
noncomputable def nP (g : List aB) : Option (List aB) :=
  (((iy g)).bind fun h => (((gF h (fun (x : aB) => ri x))).bind fun a => (((tF (fun (x : (aB × aB)) => mT x.1 x.2) a)).bind fun b => (((lX b)).bind fun d => some d))))
noncomputable def jr (g : aB) : List aB → Nat → Option Int
  | [], _ => some (-1)
  | d :: b, a => (if (bT g d) then some (a : Int) else (jr g b (a + 1)))
noncomputable def py (a : List aB) (b : aB) : Option Int :=
  jr b a 0
noncomputable def lD (a : List aB) (b : aB) : Option Bool :=
  (((py a b)).bind fun d => some (decide (d ≥ 0)))
noncomputable def km (a : List aB) (b : aB) : Option Bool :=
  (((lD a b)).bind fun d => some d)
noncomputable def rU (a : aB) : Option (List aA) :=
  (((nj a)).bind fun i => (if (!i) then some [] else (((if (a.Kind != 1) then (((eS 32 ([a.Head]) ([a.B]))).bind fun h => some h) else some ([a.Head])) : Option (List aA)).bind fun b => (((if (a.Kind == 4) then (((eS 32 b ([a.C]))).bind fun g => some g) else some b) : Option (List aA)).bind fun d => some d))))
noncomputable def gP (i : aB) (a : List (ByteArray × (List aB))) (g : List aB) : List aA → (List (aA × (List aB))) → Option (((List aB) × (List (aA × (List aB))) × (List (ByteArray × (List aB)))))
  | [], b => (if (i.Kind == 3) then (((eS 136 (((dE dA a i.cO).getD [])) ([i]))).bind fun k => some (g, b, (gH dA a i.cO k))) else some (g, b, a))
  | d :: h, b => (((eS 136 (((dE bB b d).getD [])) ([i]))).bind fun j => (gP i a g h ((gH bB b d j))))
noncomputable def mJ (i : List (aA × (List (ByteArray × Bool)))) (a : List aB) (d : List (aA × (List aB))) (b : List (ByteArray × (List aB))) (g : List aV) (l : Int) (j : aB) : Option (((List aB) × (List (aA × (List aB))) × (List (ByteArray × (List aB))))) :=
  (((eS 136 a ([j]))).bind fun k => (((rU j)).bind fun h => (((lR (decide (0 ≤ 1) && decide (1 ≤ (h.length : Int))))).bind fun _ => gP j b k ((h.drop (Int.toNat 1))) d)))
noncomputable def gp (a : List (aA × (List (ByteArray × Bool)))) (g : List aB) (i : List (aA × (List aB))) (h : List (ByteArray × (List aB))) (b : List aV) (d : Int) (j : aA) (l : ByteArray) : Option (((List (aA × (List (ByteArray × Bool)))) × (List aV) × Int)) :=
  (if (tC dA (((dE bB a j).getD [])) l false) then some (a, b, d) else (((if (dE bB a j).isNone then (((AM bB a j ([]))).bind fun k => some k) else some a) : Option (List (aA × (List (ByteArray × Bool))))).bind fun m => (((Af bB dA m j l true)).bind fun n => (((eS 48 b ([(⟨j, l⟩ : aV)]))).bind fun p => some (n, p, (IntKind.i64.wrap (d + 1)))))))
noncomputable def gY (a : List (ByteArray × Bool)) : Option Unit :=
  some ()
noncomputable def jN (a : List (aA × (List (ByteArray × Bool)))) (b : List aB) (h : List (aA × (List aB))) (d : List (ByteArray × (List aB))) (g : List aV) (j : Int) (k : aA) : Option (List ByteArray) :=
  (((gY (((dE bB a k).getD [])))).bind fun l => (((Bh (((dE bB a k).getD [])))).bind fun i => some i))
noncomputable def ju (a : List aB) (d : List (aA × (List aB))) (b : List (ByteArray × (List aB))) (m : aA) : List ByteArray → (List (aA × (List (ByteArray × Bool)))) → (List aV) → Int → Option (((List (aA × (List (ByteArray × Bool)))) × (List aV) × Int))
  | [], g, h, j => some (g, h, j)
  | l :: k, g, h, j => (((gp g a d b h j m l)).bind fun i => (ju a d b m k i.1 i.2.1 i.2.2))
noncomputable def nr (h : List (aA × (List (ByteArray × Bool)))) (a : List aB) (g : List (aA × (List aB))) (b : List (ByteArray × (List aB))) (d : List aV) (i : Int) (j k : aA) : Option (((List (aA × (List (ByteArray × Bool)))) × (List aV) × Int)) :=
  (((jN h a g b d i j)).bind fun l => ju a g b k l h d i)
noncomputable def kO (a : List (aA × (List (ByteArray × Bool)))) (d : List aB) (h : List (aA × (List aB))) (g : List (ByteArray × (List aB))) (b : List aV) (i : Int) (j : aB) (m : aV) : Option (((List (aA × (List (ByteArray × Bool)))) × (List aV) × Int)) :=
  (if (j.Kind == 2) then (((gp a d h g b i j.Head m.cH)).bind fun n => some (n.1, n.2.1, n.2.2)) else (if (j.Kind == 3) then (((nr a d h g b i ((⟨m.cH, j.cO⟩ : aA)) j.Head)).bind fun k => some (k.1, k.2.1, k.2.2)) else (if (j.Kind == 4) then (((if (tC dA (((dE bB a j.B).getD [])) m.cH false) then some ((tC dA (((dE bB a j.C).getD [])) m.cH false)) else some false) : Option Bool).bind fun p => (if p then (((gp a d h g b i j.Head m.cH)).bind fun l => some (l.1, l.2.1, l.2.2)) else some (a, b, i))) else some (a, b, i))))
noncomputable def iL (a : List aB) (d : List (aA × (List aB))) (b : List (ByteArray × (List aB))) (m : aB) : List ByteArray → (List (aA × (List (ByteArray × Bool)))) → (List aV) → Int → Option (((List (aA × (List (ByteArray × Bool)))) × (List aV) × Int))
  | [], g, h, j => some (g, h, j)
  | l :: k, g, h, j => (((kO g a d b h j m ((⟨m.B, l⟩ : aV)))).bind fun i => (iL a d b m k i.1 i.2.1 i.2.2))
noncomputable def lZ (h : List (aA × (List (ByteArray × Bool)))) (a : List aB) (g : List (aA × (List aB))) (b : List (ByteArray × (List aB))) (d : List aV) (i : Int) (j : aB) : Option (((List (aA × (List (ByteArray × Bool)))) × (List aV) × Int)) :=
  (if (j.Kind == 1) then (((gp h a g b d i j.Head j.cH)).bind fun l => some (l.1, l.2.1, l.2.2)) else (((jN h a g b d i j.B)).bind fun k => iL a g b j k h d i))
noncomputable def gw (i : aV) (a : List aB) (d : List (aA × (List aB))) (b : List (ByteArray × (List aB))) : List aB → (List (aA × (List (ByteArray × Bool)))) → (List aV) → Int → Option (((List (aA × (List (ByteArray × Bool)))) × (List aV) × Int))
  | [], g, h, j => some (g, h, j)
  | m :: l, g, h, j => (if (tC dA (((dE bB g m.B).getD [])) i.aA.aC false) then (((gp g a d b h j m.Head i.cH)).bind fun k => (gw i a d b l k.1 k.2.1 k.2.2)) else (gw i a d b l g h j))
noncomputable def iz (a : List aB) (d : List (aA × (List aB))) (b : List (ByteArray × (List aB))) (k : aV) : List aB → (List (aA × (List (ByteArray × Bool)))) → (List aV) → Int → Option (((List (aA × (List (ByteArray × Bool)))) × (List aV) × Int))
  | [], g, h, j => some (g, h, j)
  | m :: l, g, h, j => (((kO g a d b h j m k)).bind fun i => (iz a d b k l i.1 i.2.1 i.2.2))
noncomputable def fN (d : List aB) (b : List (aA × (List aB))) (a : List (ByteArray × (List aB))) : Nat → (List (aA × (List (ByteArray × Bool)))) → (List aV) → Int → Option (((List (aA × (List (ByteArray × Bool)))) × (List aV) × Int))
  | 0, _, _, _ => none
  | p + 1, i, g, j => (if (decide (((g.length : Int)) > 0)) then (((dU g 0)).bind fun h => (((lR (decide (0 ≤ 1) && decide (1 ≤ (g.length : Int))))).bind fun _ => ((iz d b a h (((dE bB b h.aA).getD [])) i ((g.drop (Int.toNat 1))) j : Option (((List (aA × (List (ByteArray × Bool)))) × (List aV) × Int))).bind fun (k, l, q) => ((gw h d b a (((dE dA a h.aA.aJ).getD [])) k l q : Option (((List (aA × (List (ByteArray × Bool)))) × (List aV) × Int))).bind fun (m, n, r) => (fN d b a p m n r))))) else some (i, g, j))
noncomputable def nR (h : List (aA × (List (ByteArray × Bool)))) (a : List aB) (g : List (aA × (List aB))) (b : List (ByteArray × (List aB))) (d : List aV) (i : Int) : Option (((List (aA × (List (ByteArray × Bool)))) × (List aV) × Int)) :=
  fN a g b bL h d i
noncomputable def gq (m : Int) : List aB → (List (aA × (List (ByteArray × Bool)))) → (List aB) → (List (aA × (List aB))) → (List (ByteArray × (List aB))) → (List aV) → Int → Option ((Int × (List (aA × (List (ByteArray × Bool)))) × (List aB) × (List (aA × (List aB))) × (List (ByteArray × (List aB))) × (List aV) × Int))
  | [], d, a, g, h, i, j => (((nR d a g h i j)).bind fun k => some ((IntKind.i64.wrap (k.2.2 - m)), k.1, a, g, h, k.2.1, k.2.2))
  | l :: p, d, a, g, h, i, j => (((nj l)).bind fun q => (((if q then (((km a l)).bind fun r => some ((!r))) else some false) : Option Bool).bind fun s => (if s then (((mJ d a g h i j l)).bind fun b => (((lZ d b.1 b.2.1 b.2.2 i j l)).bind fun n => (gq m p n.1 b.1 b.2.1 b.2.2 n.2.1 n.2.2))) else (gq m p d a g h i j))))
noncomputable def nq (h : List (aA × (List (ByteArray × Bool)))) (a : List aB) (g : List (aA × (List aB))) (b : List (ByteArray × (List aB))) (d : List aV) (i : Int) (j : List aB) : Option ((Int × (List (aA × (List (ByteArray × Bool)))) × (List aB) × (List (aA × (List aB))) × (List (ByteArray × (List aB))) × (List aV) × Int)) :=
  gq i j h a g b d i
noncomputable def rY (b : List aB) : Option (((List (aA × (List (ByteArray × Bool)))) × (List aB) × (List (aA × (List aB))) × (List (ByteArray × (List aB))) × (List aV) × Int)) :=
  (((nq ([]) ([]) ([]) ([]) ([]) 0 b)).bind fun a => some (a.2.1, a.2.2.1, a.2.2.2.1, a.2.2.2.2.1, a.2.2.2.2.2.1, a.2.2.2.2.2.2))
noncomputable def jv (g h : aV) : Option Int :=
  (((kY g.aA h.aA)).bind fun a => (((jc g.cH h.cH)).bind fun b => (((ol ([a, b]))).bind fun d => some d)))
noncomputable def pv (d : List (aA × (List (ByteArray × Bool)))) (g : List aB) (j : List (aA × (List aB))) (h : List (ByteArray × (List aB))) (i : List aV) (l : Int) : Option (List aV) :=
  ((HO 48 (fun (a : aA) (b : ByteArray) => (⟨a, b⟩ : aV)) d).bind fun fs => xW fs (fun k => (((tF (fun (x : (aV × aV)) => jv x.1 x.2) k)).bind fun m => some m)))
noncomputable def oG (a : List (aA × (List (ByteArray × Bool)))) (b : List aB) (h : List (aA × (List aB))) (d : List (ByteArray × (List aB))) (g : List aV) (i : Int) (j : aA) (k : ByteArray) : Option Bool :=
  some (tC dA (((dE bB a j).getD [])) k false)
noncomputable def kT  : List aB → Int → Option Int
  | [], b => some b
  | a :: d, b => (kT d ((IntKind.i64.wrap (b + ((IntKind.i64.wrap (((IntKind.i64.wrap (((IntKind.i64.wrap (((IntKind.i64.wrap (((IntKind.i64.wrap (((IntKind.i64.wrap (((IntKind.i64.wrap (((IntKind.i64.wrap (20 + ((a.Head.aC.size : Int))))) + ((a.Head.aJ.size : Int))))) + ((a.cH.size : Int))))) + ((a.B.aC.size : Int))))) + ((a.B.aJ.size : Int))))) + ((a.C.aC.size : Int))))) + ((a.C.aJ.size : Int))))) + ((a.cO.size : Int)))))))))
noncomputable def oR (a : List aB) : Option Int :=
  kT a 0
noncomputable def kX  : List Signed → Int → Option Int
  | [], a => some a
  | b :: d, a => (((oR ([b.aB]))).bind fun g => (kX d ((IntKind.i64.wrap (a + ((IntKind.i64.wrap (g + ((b.Tag.length : Int))))))))))
noncomputable def jL (h : List Signed) : List Key → Int → Option Int
  | [], a => ((kX h a : Option Int).bind fun b => some b)
  | d :: g, a => (jL h g ((IntKind.i64.wrap (a + ((IntKind.i64.wrap (((IntKind.i64.wrap (10 + ((d.cH.size : Int))))) + ((d.Key.length : Int)))))))))
noncomputable def ny (a : List Key) (b : List Signed) : Option Int :=
  jL b a 0
noncomputable def jG (k : ByteArray) : Nat → Int → Option Bool
  | 0, _ => none
  | d + 1, b => (if (decide (b < ((k.size : Int)))) then (((ue k b)).bind fun a => (((if (decide (((a.toNat : Int)) < 97)) then some true else some ((decide (((a.toNat : Int)) > 122)))) : Option Bool).bind fun g => (((if g then (((if (decide (((a.toNat : Int)) < 48)) then some true else some ((decide (((a.toNat : Int)) > 57)))) : Option Bool).bind fun j => some j) else some false) : Option Bool).bind fun h => (((if h then some ((((a.toNat : Int)) != 45)) else some false) : Option Bool).bind fun i => (if i then some false else (jG k d ((IntKind.i64.wrap (b + 1))))))))) else some true)
noncomputable def kD (a : ByteArray) : Option Bool :=
  (((if (dA a zS) then some true else some ((decide (((a.size : Int)) > 16)))) : Option Bool).bind fun x2 => (((if x2 then some true else (((ue a 0)).bind fun d => some ((decide (((d.toNat : Int)) < 97))))) : Option Bool).bind fun g => (((if g then some true else (((ue a 0)).bind fun b => some ((decide (((b.toNat : Int)) > 122))))) : Option Bool).bind fun h => (if h then some false else jG a bL 0))))
noncomputable def mn (d : aA) : Option Bool :=
  (((kD d.aC)).bind fun g => (((if g then (((kD d.aJ)).bind fun a => some a) else some false) : Option Bool).bind fun b => some b))
noncomputable def pV (a b : aA) : Option Bool :=
  (((if (jz a.aC b.aC) then some true else (((if (dA a.aC b.aC) then some ((jz a.aJ b.aJ)) else some false) : Option Bool).bind fun g => some g)) : Option Bool).bind fun d => some d)
noncomputable def oZ (a : aB) : Option Bool :=
  (((mn a.Head)).bind fun u => (if (!u) then some false else (if (a.Kind == 1) then (((kD a.cH)).bind fun j => (((if j then some ((bB a.B ((⟨zS, zS⟩ : aA)))) else some false) : Option Bool).bind fun l => (((if l then some ((bB a.C ((⟨zS, zS⟩ : aA)))) else some false) : Option Bool).bind fun m => (((if m then some ((dA a.cO zS)) else some false) : Option Bool).bind fun n => some n)))) else (((if (!(dA a.cH zS)) then some true else (((mn a.B)).bind fun g => some ((!g)))) : Option Bool).bind fun p => (if p then some false else (if (a.Kind == 2) then (((if (bB a.C ((⟨zS, zS⟩ : aA))) then some ((dA a.cO zS)) else some false) : Option Bool).bind fun q => some q) else (if (a.Kind == 3) then (((if (bB a.C ((⟨zS, zS⟩ : aA))) then some ((dA a.B.aC a.Head.aC)) else some false) : Option Bool).bind fun r => (((if r then (((kD a.cO)).bind fun k => some k) else some false) : Option Bool).bind fun s => some s)) else (((if (a.Kind == 4) then some ((dA a.cO zS)) else some false) : Option Bool).bind fun t => (((if t then (((mn a.C)).bind fun d => some d) else some false) : Option Bool).bind fun h => (((if h then (((pV a.B a.C)).bind fun b => some b) else some false) : Option Bool).bind fun i => some i))))))))))
noncomputable def mD  : Nat → Int → ByteArray → Option ByteArray
  | 0, _, _ => none
  | d + 1, a, b => (if (decide (a ≥ 128)) then (((pW b ((yb ([(IntKind.u8.wrap ((IntKind.i64.wrap (128 + ((Int.tmod a 128))))))]))))).bind fun g => (mD d ((IntKind.i64.wrap (Int.tdiv a 128))) g)) else (((pW b ((yb ([(IntKind.u8.wrap a)]))))).bind fun h => some h))
noncomputable def jT (a : Int) : Option ByteArray :=
  mD bL a zS
noncomputable def nf (a : ByteArray) : Option ByteArray :=
  (((jT ((a.size : Int)))).bind fun b => (((pW b a)).bind fun d => some d))
noncomputable def ms (g : aA) : Option ByteArray :=
  (((nf g.aC)).bind fun a => (((nf g.aJ)).bind fun b => (((pW a b)).bind fun d => some d)))
noncomputable def tX (a : aB) : Option ByteArray :=
  (((jT a.Kind)).bind fun h => (((ms a.Head)).bind fun i => (((pW h i)).bind fun b => (if (a.Kind == 1) then (((nf a.cH)).bind fun j => (((pW b j)).bind fun n => some n)) else (((ms a.B)).bind fun k => (((pW b k)).bind fun d => (((if (a.Kind == 3) then (((nf a.cO)).bind fun m => (((pW d m)).bind fun q => some q)) else some d) : Option ByteArray).bind fun g => (((if (a.Kind == 4) then (((ms a.C)).bind fun l => (((pW g l)).bind fun p => some p)) else some g) : Option ByteArray).bind fun r => some r))))))))
noncomputable def pi (a : aB) : Option ByteArray :=
  (((oZ a)).bind fun b => (if (!b) then some zS else (((tX a)).bind fun d => some d)))
noncomputable def lW (d g : aB) : Option Int :=
  (((pi d)).bind fun a => (((pi g)).bind fun b => (if (jz a b) then some (-1) else (if (!(jz a b || dA a b)) then some 1 else some 0))))
noncomputable def kZ (a : List aB) : List aB → Bool → aB → Option ((Bool × aB))
  | [], d, g => some (d, g)
  | b :: h, d, g => (((oZ b)).bind fun i => (((if i then (((if (((a.length : Int)) == 0) then some true else (((dU a ((IntKind.i64.wrap (((a.length : Int)) - 1))))).bind fun q => (((lW q b)).bind fun k => some ((decide (k < 0)))))) : Option Bool).bind fun p => some p) else some false) : Option Bool).bind fun l => (((if l then (((if (!d) then some true else (((lW b g)).bind fun j => some ((decide (j < 0))))) : Option Bool).bind fun n => some n) else some false) : Option Bool).bind fun m => (if m then (kZ a h true b) else (kZ a h d g)))))
noncomputable def mV (i : List aB) : Nat → (List aB) → Option (List aB)
  | 0, _ => none
  | d + 1, a => ((kZ a i false ((⟨0, (⟨zS, zS⟩ : aA), zS, (⟨zS, zS⟩ : aA), (⟨zS, zS⟩ : aA), zS⟩ : aB)) : Option ((Bool × aB))).bind fun (g, h) => (if (!g) then some a else (((eS 136 a ([h]))).bind fun b => (mV i d b))))
noncomputable def nV (a : List aB) : Option (List aB) :=
  mV a bL ([])
noncomputable def jj (h : List aB) : List aB → Nat → Option Bool
  | [], _ => some true
  | g :: d, a => (((dU h ((a : Int)))).bind fun b => (if (!(bT g b)) then some false else (jj h d (a + 1))))
noncomputable def fW (a b : List aB) : Option Bool :=
  (if (((a.length : Int)) != ((b.length : Int))) then some false else jj b a 0)
noncomputable def qn (d : aB) : List aB → Option Bool
  | [] => some false
  | b :: a => (if (bT b d) then some true else (qn d a))
noncomputable def po (a : List aB) (b : aB) : Option Bool :=
  qn b a
noncomputable def kW (a : List ByteArray) : List ByteArray → ByteArray → Option ByteArray
  | [], d => some d
  | b :: g, d => (((kD b)).bind fun i => (((if i then (((if (((a.length : Int)) == 0) then some true else (((dU a ((IntKind.i64.wrap (((a.length : Int)) - 1))))).bind fun h => some ((!(jz b h || dA b h))))) : Option Bool).bind fun m => some m) else some false) : Option Bool).bind fun j => (((if j then (((if (dA d zS) then some true else some ((jz b d))) : Option Bool).bind fun l => some l) else some false) : Option Bool).bind fun k => (if k then (kW a g b) else (kW a g d)))))
noncomputable def mR (h : List ByteArray) : Nat → (List ByteArray) → Option (List ByteArray)
  | 0, _ => none
  | g + 1, a => ((kW a h zS : Option ByteArray).bind fun b => (if (dA b zS) then some a else (((eS 16 a ([b]))).bind fun d => (mR h g d))))
noncomputable def tE (a : List ByteArray) : Option (List ByteArray) :=
  mR a bL ([])
noncomputable def li  : List aB → (List ByteArray) → Option (List ByteArray)
  | [], b => (((tE b)).bind fun g => some g)
  | a :: h, b => (((eS 16 b ([a.cH, a.Head.aC, a.B.aC, a.C.aC]))).bind fun d => (li h d))
noncomputable def rf (a : List aB) : Option (List ByteArray) :=
  li a ([])
noncomputable def pa (g : aA) (h : ByteArray) : List aV → Option Bool
  | [] => some false
  | b :: d => (((if (bB b.aA g) then some ((dA b.cH h)) else some false) : Option Bool).bind fun a => (if a then some true else (pa g h d)))
noncomputable def nM (a : List aV) (b : aA) (d : ByteArray) : Option Bool :=
  pa b d a
noncomputable def nD (i : List aV) (j : aB) (k : ByteArray) : List ByteArray → Option Bool
  | [] => some false
  | a :: b => (((nM i j.B a)).bind fun d => (((if d then (((nM i ((⟨a, j.cO⟩ : aA)) k)).bind fun g => some g) else some false) : Option Bool).bind fun h => (if h then some true else (nD i j k b))))
noncomputable def se (d : List aV) (a : aB) (i : List ByteArray) (b : ByteArray) : Option Bool :=
  (if (a.Kind == 1) then some (dA a.cH b) else (if (a.Kind == 2) then (((nM d a.B b)).bind fun j => some j) else (if (a.Kind == 4) then (((nM d a.B b)).bind fun k => (((if k then (((nM d a.C b)).bind fun g => some g) else some false) : Option Bool).bind fun h => some h)) else nD d a b i)))
noncomputable def ni (a b : aV) : Option Bool :=
  (((pV a.aA b.aA)).bind fun h => (((if h then some true else (((if (bB a.aA b.aA) then some ((jz a.cH b.cH)) else some false) : Option Bool).bind fun g => some g)) : Option Bool).bind fun d => some d))
noncomputable def iw (b q : List aV) : List aV → Nat → Int → Option Int
  | [], _, a => some a
  | h :: g, d, a => (((if (((b.length : Int)) == 0) then some true else (((dU b ((IntKind.i64.wrap (((b.length : Int)) - 1))))).bind fun p => (((ni p h)).bind fun j => some j))) : Option Bool).bind fun k => (((if k then (((if (decide (a < 0)) then some true else (((dU q a)).bind fun n => (((ni h n)).bind fun i => some i))) : Option Bool).bind fun m => some m) else some false) : Option Bool).bind fun l => (if l then (iw b q g (d + 1) ((d : Int))) else (iw b q g (d + 1) a))))
noncomputable def iv (i : List aV) : List aV → (List aV) → Option (List aV)
  | [], a => some a
  | j :: d, a => ((iw a i i 0 ((-1)) : Option Int).bind fun b => (if (decide (b ≥ 0)) then (((dU i b)).bind fun h => (((eS 48 a ([h]))).bind fun g => (iv i d g))) else (iv i d a)))
noncomputable def ta (a : List aV) : Option (List aV) :=
  iv a a ([])
noncomputable def nz (b : aB) (m : List ByteArray) : List ByteArray → (List aV) → Bool → Option (((List aV) × Bool))
  | [], a, g => some (a, g)
  | d :: h, a, g => (((nM a b.Head d)).bind fun j => (((if (!j) then (((se a b m d)).bind fun k => some k) else some false) : Option Bool).bind fun l => (if l then (((eS 48 a ([(⟨b.Head, d⟩ : aV)]))).bind fun i => (nz b m h i true)) else (nz b m h a g))))
noncomputable def oU (j : List ByteArray) : List aB → (List aV) → Bool → Option (((List aV) × Bool))
  | [], a, b => some (a, b)
  | h :: d, a, b => ((nz h j j a b : Option (((List aV) × Bool))).bind fun (g, i) => (oU j d g i))
noncomputable def nx (i : List ByteArray) (j : List aB) : Nat → (List aV) → Option (List aV)
  | 0, _ => none
  | b + 1, h => ((oU i j h false : Option (((List aV) × Bool))).bind fun (a, g) => (if (!g) then (((ta a)).bind fun d => some d) else (nx i j b a)))
noncomputable def qp (d : List aB) : Option (List aV) :=
  (((nV d)).bind fun b => (((rf b)).bind fun a => nx a b bL ([])))
noncomputable def gU (b : aB) (d : aA) : Option (List cI) :=
  (((yR 1 0 8)).bind fun a => some [(⟨(⟨b, a⟩ : Signed), (⟨1, 0, d, []⟩ : Formula)⟩ : cI)])
noncomputable def iY  : List cI → (List aB) → Option (List aB)
  | [], a => (((nP a)).bind fun d => some d)
  | h :: g, a => (((eS 136 a ([h.Signed.aB]))).bind fun b => (iY g b))
noncomputable def nT (a : cR) : Option (List aB) :=
  iY a.aT ([])
noncomputable def ov (b : List aB) (d : ByteArray) : Option (((List (aA × (List (ByteArray × Bool)))) × (List aB) × (List (aA × (List aB))) × (List (ByteArray × (List aB))) × (List aV) × Int × ByteArray)) :=
  (((rY b)).bind fun a => some (a.1, a.2.1, a.2.2.1, a.2.2.2.1, a.2.2.2.2.1, a.2.2.2.2.2, d))
noncomputable def fM (h : cI → Option Bool) : List cI → Nat → Option Int
  | [], _ => some (-1)
  | g :: b, a => (((h g)).bind fun d => (if d then some (a : Int) else (fM h b (a + 1))))
noncomputable def fl (a : List cI) (b : cI → Option Bool) : Option Int :=
  fM b a 0
noncomputable def pA (a : cI) (b : aB) : Option Bool :=
  some (bT a.Signed.aB b)
noncomputable def si (d : cR) (g : aB) : Option ((cI × Bool)) :=
  (((fl d.aT (fun (x : cI) => pA x g))).bind fun a => (if (decide (a < 0)) then some ((⟨(⟨(⟨0, (⟨zS, zS⟩ : aA), zS, (⟨zS, zS⟩ : aA), (⟨zS, zS⟩ : aA), zS⟩ : aB), []⟩ : Signed), (⟨0, 0, (⟨zS, zS⟩ : aA), []⟩ : Formula)⟩ : cI), false) else (((dU d.aT a)).bind fun b => some (b, true))))
noncomputable def nC (a : List gM) : Option (List gM) :=
  (((eS 128 ([]) a)).bind fun b => some b)
noncomputable def gu (h : gM → Option Bool) : List gM → Nat → Option Int
  | [], _ => some (-1)
  | g :: b, a => (((h g)).bind fun d => (if d then some (a : Int) else (gu h b (a + 1))))
noncomputable def nW (a : List gM) (b : gM → Option Bool) : Option Int :=
  gu b a 0
noncomputable def gk (l : gM → Option Bool) : Nat → (List gM) → Int → Int → Option (List gM)
  | 0, _, _, _ => none
  | i + 1, b, a, d => (if (decide (d < ((b.length : Int)))) then (((((dU b d)).bind fun g => (((l g)).bind fun j => (if (!j) then (((dU b a)).bind fun m => some (((b.set (Int.toNat a) g)), ((IntKind.i64.wrap (a + 1))))) else some (b, a)))) : Option (((List gM) × Int))).bind fun (h, k) => (gk l i h k ((IntKind.i64.wrap (d + 1))))) else (((lR (decide (0 ≤ a) && decide (a ≤ (b.length : Int))))).bind fun _ => (((lR (decide (0 ≤ a) && decide (a ≤ (((ie b (Int.toNat a) (⟨(⟨zS, zS⟩ : aA), (⟨0, 0, (⟨zS, zS⟩ : aA), []⟩ : Formula), []⟩ : gM))).length : Int))))).bind fun _ => some (((ie b (Int.toNat a) (⟨(⟨zS, zS⟩ : aA), (⟨0, 0, (⟨zS, zS⟩ : aA), []⟩ : Formula), []⟩ : gM))).take (Int.toNat a)))))
noncomputable def kM (a : List gM) (d : gM → Option Bool) : Option (List gM) :=
  (((nW a d)).bind fun b => (if (b == ((-1))) then some a else gk d bL a b ((IntKind.i64.wrap (b + 1)))))
noncomputable def ll (a : gM) (b : aB) : Option Bool :=
  (((km a.eQ b)).bind fun d => some (!d))
noncomputable def rk (b : cR) (d : aB) : Option (List gM) :=
  (((nC b.bP)).bind fun g => (((kM g (fun (x : gM) => ll x d))).bind fun a => some a))
noncomputable def iG (h : Int) (rec : Formula → Int → Option ((Int × Int))) : List Formula → Int → Int → Option ((Int × Int))
  | [], a, d => some (a, d)
  | i :: g, a, d => (if (decide (a > h)) then some (a, d) else (((rec i ((IntKind.i64.wrap (h - a))))).bind fun b => (iG h rec g ((IntKind.i64.wrap (a + b.1))) ((if b.2 > d then b.2 else d)))))
noncomputable def oP (rec : Formula → Int → Option ((Int × Int))) (d : Formula) (g : Int) : Option ((Int × Int)) :=
  ((iG g rec d.Kids 1 0 : Option ((Int × Int))).bind fun (a, b) => some (a, (IntKind.i64.wrap (b + 1))))
noncomputable def gK : Nat → Formula → Int → Option ((Int × Int))
  | 0 => fun _ _ => none
  | n + 1 => oP (gK n)
noncomputable def qv (b : Formula) : Option ((Int × Int)) :=
  (((gK bL b 4096)).bind fun a => (if (decide (a.1 > 4096)) then some (0, 0) else some (a.1, a.2)))
noncomputable def qj (a : Formula) : Option Bool :=
  (if (a.Op == 1) then (((jy a.aA)).bind fun h => (((if h then some ((((a.Kids.length : Int)) == 0)) else some false) : Option Bool).bind fun i => (((if i then some ((a.K == 0)) else some false) : Option Bool).bind fun j => some j))) else (((if (a.Op == 2) then some ((a.Op == 2)) else some ((a.Op == 3))) : Option Bool).bind fun k => (if k then (((if (bB a.aA ((⟨zS, zS⟩ : aA))) then some ((a.K == 0)) else some false) : Option Bool).bind fun l => some l) else (((if (a.Op == 4) then some ((bB a.aA ((⟨zS, zS⟩ : aA)))) else some false) : Option Bool).bind fun m => (((if m then some ((decide (a.K ≥ 0))) else some false) : Option Bool).bind fun b => (((if b then some ((decide (a.K ≤ ((a.Kids.length : Int))))) else some false) : Option Bool).bind fun d => (((if d then some ((decide (((a.Kids.length : Int)) ≥ 1))) else some false) : Option Bool).bind fun g => some g)))))))
noncomputable def fL (h : Formula → Option Bool) : List Formula → Nat → Option Int
  | [], _ => some (-1)
  | g :: b, a => (((h g)).bind fun d => (if d then some (a : Int) else (fL h b (a + 1))))
noncomputable def mi (a : List Formula) (b : Formula → Option Bool) : Option Int :=
  fL b a 0
noncomputable def gy (a : List Formula) (b : Formula → Option Bool) : Option Bool :=
  (((mi a b)).bind fun d => some (decide (d ≥ 0)))
noncomputable def nG (rec : Formula → Option Bool) (a : Formula) : Option Bool :=
  (((rec a)).bind fun b => some (!b))
noncomputable def oE (rec : Formula → Option Bool) (a : Formula) : Option Bool :=
  (((qj a)).bind fun g => (((if g then some ((decide (((a.Kids.length : Int)) ≤ 8))) else some false) : Option Bool).bind fun h => (((if h then (((gy a.Kids (fun (x : Formula) => nG rec x))).bind fun b => some ((!b))) else some false) : Option Bool).bind fun d => some d)))
noncomputable def ku : Nat → Formula → Option Bool
  | 0 => fun _ => none
  | n + 1 => oE (ku n)
noncomputable def ko (h : Formula) : Option Bool :=
  (((qv h)).bind fun b => (((if (decide (b.1 ≥ 1)) then some ((decide (b.1 ≤ 64))) else some false) : Option Bool).bind fun i => (((if i then some ((decide (b.2 ≤ 6))) else some false) : Option Bool).bind fun d => (((if d then (((ku bL h)).bind fun a => some a) else some false) : Option Bool).bind fun g => some g))))
noncomputable def mU (a : Formula) (b : Int) : Option Bool :=
  (((if (a.Op == b) then some ((((a.Kids.length : Int)) == 0)) else some false) : Option Bool).bind fun x6 => some x6)
noncomputable def su  : Option Formula :=
  some (⟨2, 0, (⟨zS, zS⟩ : aA), []⟩ : Formula)
noncomputable def tg  : Option Formula :=
  some (⟨3, 0, (⟨zS, zS⟩ : aA), []⟩ : Formula)
noncomputable def jK (i : Int) : List Formula → (List Formula) → Option (List Formula)
  | [], a => some a
  | b :: d, a => (if (b.Op == i) then (((eS 72 a b.Kids)).bind fun g => (jK i d g)) else (((eS 72 a ([b]))).bind fun h => (jK i d h)))
noncomputable def tW (a : Int) (b : List Formula) : Option (List Formula) :=
  jK a b ([])
noncomputable def jW (a : Formula) (b : Int) : Option Bool :=
  (((mU a b)).bind fun d => some d)
noncomputable def lE (a : List Formula) : Option (List Formula) :=
  (((eS 72 ([]) a)).bind fun b => some b)
noncomputable def dX (p : Int) (q : ((Formula × Formula)) → Option Int) : Nat → (List Formula) → Int → Option (List Formula)
  | 0, _, _ => none
  | h + 1, b, a => (((if (decide (a > p)) then (((dU b a)).bind fun k => (((dU b ((IntKind.i64.wrap (a - 1))))).bind fun l => (((q ((k, l)))).bind fun i => some ((decide (i < 0)))))) else some false) : Option Bool).bind fun j => (if j then (((dU b ((IntKind.i64.wrap (a - 1))))).bind fun g => (((dU b a)).bind fun d => (((dU b a)).bind fun m => (((dU ((b.set (Int.toNat a) g)) ((IntKind.i64.wrap (a - 1))))).bind fun n => (dX p q h ((((b.set (Int.toNat a) g)).set (Int.toNat ((IntKind.i64.wrap (a - 1)))) ((⟨d.Op, d.K, d.aA, d.Kids⟩ : Formula)))) ((IntKind.i64.wrap (a - 1)))))))) else some b))
noncomputable def dO (i h : Int) (j : ((Formula × Formula)) → Option Int) : Nat → (List Formula) → Int → Option (List Formula)
  | 0, _, _ => none
  | g + 1, b, a => (if (decide (a < i)) then ((dX h j bL b a : Option (List Formula)).bind fun d => (dO i h j g d ((IntKind.i64.wrap (a + 1))))) else some b)
noncomputable def fD (b : List Formula) (a d : Int) (g : ((Formula × Formula)) → Option Int) : Option (List Formula) :=
  dO d a g bL b ((IntKind.i64.wrap (a + 1)))
noncomputable def ew (k j h : Int) : Nat → (List Formula) → Int → Option (List Formula)
  | 0, _, _ => none
  | i + 1, b, a => (if (decide (a < k)) then (((dU b ((IntKind.i64.wrap (j + a))))).bind fun g => (((dU b ((IntKind.i64.wrap (h + a))))).bind fun d => (((dU b ((IntKind.i64.wrap (h + a))))).bind fun l => (((dU ((b.set (Int.toNat ((IntKind.i64.wrap (h + a)))) g)) ((IntKind.i64.wrap (j + a))))).bind fun m => (ew k j h i ((((b.set (Int.toNat ((IntKind.i64.wrap (h + a)))) g)).set (Int.toNat ((IntKind.i64.wrap (j + a)))) ((⟨d.Op, d.K, d.aA, d.Kids⟩ : Formula)))) ((IntKind.i64.wrap (a + 1)))))))) else some b)
noncomputable def ft (a : List Formula) (b d g : Int) (h : ((Formula × Formula)) → Option Int) : Option (List Formula) :=
  ew g d b bL a 0
noncomputable def eK (g : Int) (i : ((Formula × Formula)) → Option Int) : Nat → (List Formula) → Int → Int → Option (List Formula)
  | 0, _, _, _ => none
  | h + 1, d, a, b => (if (a != b) then (if (decide (a > b)) then (((ft d ((IntKind.i64.wrap (g - a))) g b i)).bind fun j => (eK g i h j ((IntKind.i64.wrap (a - b))) b)) else (((ft d ((IntKind.i64.wrap (g - a))) ((IntKind.i64.wrap (((IntKind.i64.wrap (g + b))) - a))) a i)).bind fun k => (eK g i h k a ((IntKind.i64.wrap (b - a)))))) else (((ft d ((IntKind.i64.wrap (g - a))) g a i)).bind fun l => some l))
noncomputable def fh (b : List Formula) (d a g : Int) (h : ((Formula × Formula)) → Option Int) : Option (List Formula) :=
  eK a h bL b ((IntKind.i64.wrap (a - d))) ((IntKind.i64.wrap (g - a)))
noncomputable def ez (h : Int) : Nat → (List Formula) → Int → Option (List Formula)
  | 0, _, _ => none
  | i + 1, b, a => (if (decide (a < ((IntKind.i64.wrap (h - 1))))) then (((dU b ((IntKind.i64.wrap (a + 1))))).bind fun g => (((dU b a)).bind fun d => (((dU b a)).bind fun j => (((dU ((b.set (Int.toNat a) g)) ((IntKind.i64.wrap (a + 1))))).bind fun k => (ez h i ((((b.set (Int.toNat a) g)).set (Int.toNat ((IntKind.i64.wrap (a + 1)))) ((⟨d.Op, d.K, d.aA, d.Kids⟩ : Formula)))) ((IntKind.i64.wrap (a + 1)))))))) else some b)
noncomputable def dC (g : List Formula) (l : Int) (m : ((Formula × Formula)) → Option Int) : Nat → Int → Int → Option (List Formula)
  | 0, _, _ => none
  | d + 1, a, b => (if (decide (a < b)) then (((dU g ((IntKind.i64.wrap ((Int.fdiv ((IntKind.u64.wrap ((IntKind.i64.wrap (a + b))))) (2 ^ min (Int.toNat 1) (IntKind.bits .u64)))))))).bind fun j => (((dU g l)).bind fun k => (((m ((j, k)))).bind fun i => (if (decide (i < 0)) then (dC g l m d ((IntKind.i64.wrap (((IntKind.i64.wrap ((Int.fdiv ((IntKind.u64.wrap ((IntKind.i64.wrap (a + b))))) (2 ^ min (Int.toNat 1) (IntKind.bits .u64)))))) + 1))) b) else (dC g l m d a ((IntKind.i64.wrap ((Int.fdiv ((IntKind.u64.wrap ((IntKind.i64.wrap (a + b))))) (2 ^ min (Int.toNat 1) (IntKind.bits .u64))))))))))) else ((ez a bL g l : Option (List Formula)).bind fun h => some h))
noncomputable def eA (g : Int) : Nat → (List Formula) → Int → Option (List Formula)
  | 0, _, _ => none
  | i + 1, b, a => (if (decide (a > g)) then (((dU b ((IntKind.i64.wrap (a - 1))))).bind fun h => (((dU b a)).bind fun d => (((dU b a)).bind fun j => (((dU ((b.set (Int.toNat a) h)) ((IntKind.i64.wrap (a - 1))))).bind fun k => (eA g i ((((b.set (Int.toNat a) h)).set (Int.toNat ((IntKind.i64.wrap (a - 1)))) ((⟨d.Op, d.K, d.aA, d.Kids⟩ : Formula)))) ((IntKind.i64.wrap (a - 1)))))))) else some b)
noncomputable def dD (k : List Formula) (l : Int) (m : ((Formula × Formula)) → Option Int) : Nat → Int → Int → Option (List Formula)
  | 0, _, _ => none
  | d + 1, a, b => (if (decide (a < b)) then (((dU k l)).bind fun i => (((dU k ((IntKind.i64.wrap ((Int.fdiv ((IntKind.u64.wrap ((IntKind.i64.wrap (a + b))))) (2 ^ min (Int.toNat 1) (IntKind.bits .u64)))))))).bind fun j => (((m ((i, j)))).bind fun h => (if (!((decide (h < 0)))) then (dD k l m d ((IntKind.i64.wrap (((IntKind.i64.wrap ((Int.fdiv ((IntKind.u64.wrap ((IntKind.i64.wrap (a + b))))) (2 ^ min (Int.toNat 1) (IntKind.bits .u64)))))) + 1))) b) else (dD k l m d a ((IntKind.i64.wrap ((Int.fdiv ((IntKind.u64.wrap ((IntKind.i64.wrap (a + b))))) (2 ^ min (Int.toNat 1) (IntKind.bits .u64))))))))))) else ((eA a bL k l : Option (List Formula)).bind fun g => some g))
noncomputable def cQ (v : List Formula) (d g h : Int) (w : ((Formula × Formula)) → Option Int) (rec : (List Formula) → Int → Int → Int → (((Formula × Formula)) → Option Int) → Option (List Formula)) : Nat → Int → Int → Option (List Formula)
  | 0, _, _ => none
  | k + 1, a, b => (if (decide (a < b)) then (((dU v ((IntKind.i64.wrap (((IntKind.i64.wrap (((IntKind.i64.wrap (((IntKind.i64.wrap ((Int.fdiv ((IntKind.u64.wrap ((IntKind.i64.wrap (d + g))))) (2 ^ min (Int.toNat 1) (IntKind.bits .u64)))))) + h))) - 1))) - ((IntKind.i64.wrap ((Int.fdiv ((IntKind.u64.wrap ((IntKind.i64.wrap (a + b))))) (2 ^ min (Int.toNat 1) (IntKind.bits .u64))))))))))).bind fun q => (((dU v ((IntKind.i64.wrap ((Int.fdiv ((IntKind.u64.wrap ((IntKind.i64.wrap (a + b))))) (2 ^ min (Int.toNat 1) (IntKind.bits .u64)))))))).bind fun r => (((w ((q, r)))).bind fun l => (if (!((decide (l < 0)))) then (cQ v d g h w rec k ((IntKind.i64.wrap (((IntKind.i64.wrap ((Int.fdiv ((IntKind.u64.wrap ((IntKind.i64.wrap (a + b))))) (2 ^ min (Int.toNat 1) (IntKind.bits .u64)))))) + 1))) b) else (cQ v d g h w rec k a ((IntKind.i64.wrap ((Int.fdiv ((IntKind.u64.wrap ((IntKind.i64.wrap (a + b))))) (2 ^ min (Int.toNat 1) (IntKind.bits .u64))))))))))) else (((((if (decide (a < h)) then some ((decide (h < ((IntKind.i64.wrap (((IntKind.i64.wrap (((IntKind.i64.wrap ((Int.fdiv ((IntKind.u64.wrap ((IntKind.i64.wrap (d + g))))) (2 ^ min (Int.toNat 1) (IntKind.bits .u64)))))) + h))) - a)))))) else some false) : Option Bool).bind fun u => (if u then (((fh v a h ((IntKind.i64.wrap (((IntKind.i64.wrap (((IntKind.i64.wrap ((Int.fdiv ((IntKind.u64.wrap ((IntKind.i64.wrap (d + g))))) (2 ^ min (Int.toNat 1) (IntKind.bits .u64)))))) + h))) - a))) w)).bind fun p => some p) else some v)) : Option (List Formula)).bind fun i => (((((if (decide (d < a)) then some ((decide (a < ((IntKind.i64.wrap ((Int.fdiv ((IntKind.u64.wrap ((IntKind.i64.wrap (d + g))))) (2 ^ min (Int.toNat 1) (IntKind.bits .u64))))))))) else some false) : Option Bool).bind fun t => (if t then (((rec i d a ((IntKind.i64.wrap ((Int.fdiv ((IntKind.u64.wrap ((IntKind.i64.wrap (d + g))))) (2 ^ min (Int.toNat 1) (IntKind.bits .u64)))))) w)).bind fun n => some n) else some i)) : Option (List Formula)).bind fun j => (((if (decide (((IntKind.i64.wrap ((Int.fdiv ((IntKind.u64.wrap ((IntKind.i64.wrap (d + g))))) (2 ^ min (Int.toNat 1) (IntKind.bits .u64)))))) < ((IntKind.i64.wrap (((IntKind.i64.wrap (((IntKind.i64.wrap ((Int.fdiv ((IntKind.u64.wrap ((IntKind.i64.wrap (d + g))))) (2 ^ min (Int.toNat 1) (IntKind.bits .u64)))))) + h))) - a))))) then some ((decide (((IntKind.i64.wrap (((IntKind.i64.wrap (((IntKind.i64.wrap ((Int.fdiv ((IntKind.u64.wrap ((IntKind.i64.wrap (d + g))))) (2 ^ min (Int.toNat 1) (IntKind.bits .u64)))))) + h))) - a))) < g))) else some false) : Option Bool).bind fun s => (if s then (((rec j ((IntKind.i64.wrap ((Int.fdiv ((IntKind.u64.wrap ((IntKind.i64.wrap (d + g))))) (2 ^ min (Int.toNat 1) (IntKind.bits .u64)))))) ((IntKind.i64.wrap (((IntKind.i64.wrap (((IntKind.i64.wrap ((Int.fdiv ((IntKind.u64.wrap ((IntKind.i64.wrap (d + g))))) (2 ^ min (Int.toNat 1) (IntKind.bits .u64)))))) + h))) - a))) g w)).bind fun m => some m) else some j)))))
noncomputable def iD (rec : (List Formula) → Int → Int → Int → (((Formula × Formula)) → Option Int) → Option (List Formula)) (i : List Formula) (b a d : Int) (j : ((Formula × Formula)) → Option Int) : Option (List Formula) :=
  (if (((IntKind.i64.wrap (a - b))) == 1) then dC i b j bL a d else (if (((IntKind.i64.wrap (d - a))) == 1) then dD i a j bL b a else (((if (decide (a > ((IntKind.i64.wrap ((Int.fdiv ((IntKind.u64.wrap ((IntKind.i64.wrap (b + d))))) (2 ^ min (Int.toNat 1) (IntKind.bits .u64)))))))) then some (((IntKind.i64.wrap (((IntKind.i64.wrap (((IntKind.i64.wrap ((Int.fdiv ((IntKind.u64.wrap ((IntKind.i64.wrap (b + d))))) (2 ^ min (Int.toNat 1) (IntKind.bits .u64)))))) + a))) - d))), ((IntKind.i64.wrap ((Int.fdiv ((IntKind.u64.wrap ((IntKind.i64.wrap (b + d))))) (2 ^ min (Int.toNat 1) (IntKind.bits .u64))))))) else some (b, a)) : Option ((Int × Int))).bind fun (g, h) => cQ i b d a j rec bL g h)))
noncomputable def dQ : Nat → (List Formula) → Int → Int → Int → (((Formula × Formula)) → Option Int) → Option (List Formula)
  | 0 => fun _ _ _ _ _ => none
  | n + 1 => iD (dQ n)
noncomputable def eL (j b : Int) (k : ((Formula × Formula)) → Option Int) : Nat → (List Formula) → Int → Int → Option (((List Formula) × Int))
  | 0, _, _, _ => none
  | h + 1, g, d, a => (if (decide (a ≤ j)) then (((dQ bL g d ((IntKind.i64.wrap (d + b))) a k)).bind fun i => (eL j b k h i a ((IntKind.i64.wrap (a + ((IntKind.i64.wrap (2 * b)))))))) else some (g, d))
noncomputable def ep (k : Int) (l : ((Formula × Formula)) → Option Int) : Nat → (List Formula) → Int → Option (List Formula)
  | 0, _, _ => none
  | i + 1, d, a => (if (decide (a < k)) then ((eL k a l bL d 0 ((IntKind.i64.wrap (2 * a))) : Option (((List Formula) × Int))).bind fun (g, b) => (((if (decide (((IntKind.i64.wrap (b + a))) < k)) then (((dQ bL g b ((IntKind.i64.wrap (b + a))) k l)).bind fun j => some j) else some g) : Option (List Formula)).bind fun h => (ep k l i h ((IntKind.i64.wrap (a * 2)))))) else some d)
noncomputable def eo (k : Int) (l : ((Formula × Formula)) → Option Int) : Nat → (List Formula) → Int → Int → Option (List Formula)
  | 0, _, _, _ => none
  | g + 1, d, j, a => (if (decide (a ≤ k)) then (((fD d j a l)).bind fun h => (eo k l g h a ((IntKind.i64.wrap (a + 20))))) else (((fD d j k l)).bind fun i => ((ep k l bL i 20 : Option (List Formula)).bind fun b => some b)))
noncomputable def kq (a : List Formula) (b : Int) (d : ((Formula × Formula)) → Option Int) : Option (List Formula) :=
  eo b d bL a 0 20
noncomputable def ij (a : List Formula) (b : ((Formula × Formula)) → Option Int) : Option (List Formula) :=
  (((kq a ((a.length : Int)) b)).bind fun d => some d)
noncomputable def jP (rec : (List Int) → Formula → Option (List Int)) : List Formula → (List Int) → Option (List Int)
  | [], a => some a
  | g :: b, a => (((rec a g)).bind fun d => (jP rec b d))
noncomputable def oL (rec : (List Int) → Formula → Option (List Int)) (b : List Int) (a : Formula) : Option (List Int) :=
  (((gz b a.Op)).bind fun i => (if (a.Op == 1) then (((jw i.2 a.aA)).bind fun h => some h.2) else (((if (a.Op == 4) then (((gz i.2 a.K)).bind fun d => some d.2) else some i.2) : Option (List Int)).bind fun g => (((gz g ((a.Kids.length : Int)))).bind fun j => jP rec a.Kids j.2))))
noncomputable def ji : Nat → (List Int) → Formula → Option (List Int)
  | 0 => fun _ _ => none
  | n + 1 => oL (ji n)
noncomputable def pz (a : List Int) (b : Formula) : Option ((Bool × (List Int))) :=
  (((ko b)).bind fun d => (if (!d) then some (false, a) else (((ji bL a b)).bind fun g => some (true, g))))
noncomputable def mF (b : Formula) : Option (List Int) :=
  (((pz ([]) b)).bind fun d => (((nl d.2)).bind fun a => some a))
noncomputable def mE (g h : Formula) : Option Int :=
  (((mF g)).bind fun a => (((mF h)).bind fun b => (((pH a b)).bind fun d => some d)))
noncomputable def og (b : List Formula) : Option (List Formula) :=
  (((lE b)).bind fun d => (((ij d (fun (x : (Formula × Formula)) => mE x.1 x.2))).bind fun a => some a))
noncomputable def eY (b : Int) (q : ((Formula × Formula)) → Option Bool) : Nat → (List Formula) → Int → Int → Option (((List Formula) × Int))
  | 0, _, _, _ => none
  | i + 1, a, d, g => (if (decide (g < (((a.length - (Int.toNat b) : Nat) : Int)))) then (((((dU (a.drop (Int.toNat b)) g)).bind fun l => (((dU (a.drop (Int.toNat b)) ((IntKind.i64.wrap (g - 1))))).bind fun m => (((q ((l, m)))).bind fun j => (if (!j) then (((dU (a.drop (Int.toNat b)) g)).bind fun n => (((dU a d)).bind fun p => some (((a.set (Int.toNat d) n)), ((IntKind.i64.wrap (d + 1)))))) else some (a, d))))) : Option (((List Formula) × Int))).bind fun (h, k) => (eY b q i h k ((IntKind.i64.wrap (g + 1))))) else some (a, d))
noncomputable def fe (g : List Formula) (l : ((Formula × Formula)) → Option Bool) : Nat → Int → Option (List Formula)
  | 0, _ => none
  | h + 1, a => (if (decide (a < ((g.length : Int)))) then (((dU g a)).bind fun j => (((dU g ((IntKind.i64.wrap (a - 1))))).bind fun k => (((l ((j, k)))).bind fun i => (if i then (((lR (decide (0 ≤ a) && decide (a ≤ (g.length : Int))))).bind fun _ => ((eY a l bL g a 1 : Option (((List Formula) × Int))).bind fun (d, b) => (((lR (decide (0 ≤ b) && decide (b ≤ (d.length : Int))))).bind fun _ => (((lR (decide (0 ≤ b) && decide (b ≤ (((ie d (Int.toNat b) (⟨0, 0, (⟨zS, zS⟩ : aA), []⟩ : Formula))).length : Int))))).bind fun _ => some (((ie d (Int.toNat b) (⟨0, 0, (⟨zS, zS⟩ : aA), []⟩ : Formula))).take (Int.toNat b)))))) else (fe g l h ((IntKind.i64.wrap (a + 1)))))))) else some g)
noncomputable def iW (a : List Formula) (b : ((Formula × Formula)) → Option Bool) : Option (List Formula) :=
  (if (decide (((a.length : Int)) < 2)) then some a else fe a b bL 1)
noncomputable def dB (i : List Formula) (j : ((Formula × Formula)) → Option Bool) : List Formula → Nat → Option Bool
  | [], _ => some true
  | h :: g, a => (((dU i ((a : Int)))).bind fun d => (((j ((h, d)))).bind fun b => (if (!b) then some false else (dB i j g (a + 1)))))
noncomputable def eX (a b : List Formula) (d : ((Formula × Formula)) → Option Bool) : Option Bool :=
  (if (((a.length : Int)) != ((b.length : Int))) then some false else dB b d a 0)
noncomputable def pu (rec : Formula → Formula → Option Bool) (a b : Formula) : Option Bool :=
  (((if (a.Op == b.Op) then some ((a.K == b.K)) else some false) : Option Bool).bind fun g => (((if g then some ((bB a.aA b.aA)) else some false) : Option Bool).bind fun h => (((if h then (((eX a.Kids b.Kids (fun (x : (Formula × Formula)) => rec x.1 x.2))).bind fun d => some d) else some false) : Option Bool).bind fun i => some i)))
noncomputable def gD : Nat → Formula → Formula → Option Bool
  | 0 => fun _ _ => none
  | n + 1 => pu (gD n)
noncomputable def gI (j : cL) (d : Int) (l : List Formula) : Option ((Formula × cL)) :=
  (((tW d l)).bind fun k => (((gy k (fun (x : Formula) => jW x ((IntKind.i64.wrap (5 - d)))))).bind fun g => (if g then some ((⟨(IntKind.i64.wrap (5 - d)), 0, (⟨zS, zS⟩ : aA), []⟩ : Formula), j) else (((og k)).bind fun h => (((iW h (fun (x : (Formula × Formula)) => gD bL x.1 x.2))).bind fun a => (((if (decide (((a.length : Int)) > 64)) then some ((⟨12⟩ : cL)) else some j) : Option cL).bind fun b => (if (((a.length : Int)) == 1) then (((dU a 0)).bind fun i => some (i, b)) else some ((⟨d, 0, (⟨zS, zS⟩ : aA), a⟩ : Formula), b))))))))
noncomputable def eV (h : cL) : List Formula → Int → (List Formula) → Option ((Formula × cL))
  | [], b, a => (if (decide (b ≤ 0)) then (su.bind fun n => some (n, h)) else (if (decide (b > ((a.length : Int)))) then (tg.bind fun p => some (p, h)) else (if (b == ((a.length : Int))) then (((gI h 2 a)).bind fun i => some (i.1, i.2)) else (if (b == 1) then (((gI h 3 a)).bind fun j => some (j.1, j.2)) else (((og a)).bind fun q => some ((⟨4, b, (⟨zS, zS⟩ : aA), q⟩ : Formula), h))))))
  | g :: d, b, a => (((mU g 2)).bind fun l => (if l then (eV h d ((IntKind.i64.wrap (b - 1))) a) else (((mU g 3)).bind fun m => (if (!m) then (((eS 72 a ([g]))).bind fun k => (eV h d b k)) else (eV h d b a)))))
noncomputable def jX (a : cL) (b : Int) (d : List Formula) : Option ((Formula × cL)) :=
  eV a d b ([])
noncomputable def gj (rec : cL → Formula → Option ((Formula × cL))) (l : Formula) : List Formula → (List Formula) → cL → Option ((Formula × cL))
  | [], a, b => (if (l.Op == 4) then (((jX b l.K a)).bind fun g => some (g.1, g.2)) else (((gI b l.Op a)).bind fun h => some (h.1, h.2)))
  | k :: i, a, b => (((rec b k)).bind fun d => (((eS 72 a ([d.1]))).bind fun j => (gj rec l i j d.2)))
noncomputable def lA (rec : cL → Formula → Option ((Formula × cL))) (b : cL) (a : Formula) : Option ((Formula × cL)) :=
  (if (a.Op == 1) then some (a, b) else gj rec a a.Kids ([]) b)
noncomputable def fJ : Nat → cL → Formula → Option ((Formula × cL))
  | 0 => fun _ _ => none
  | n + 1 => lA (fJ n)
noncomputable def qJ (g : Formula) : Option ((Formula × Int)) :=
  (((ko g)).bind fun h => (if (!h) then some ((⟨0, 0, (⟨zS, zS⟩ : aA), []⟩ : Formula), 11) else (((fJ bL ((⟨0⟩ : cL)) g)).bind fun a => (((if (a.2.e != 0) then some true else (((ko a.1)).bind fun b => some ((!b)))) : Option Bool).bind fun d => (if d then some ((⟨0, 0, (⟨zS, zS⟩ : aA), []⟩ : Formula), 12) else some (a.1, 0))))))
noncomputable def rj (b d : Formula) : Option ((Formula × Int)) :=
  (((qJ ((⟨2, 0, (⟨zS, zS⟩ : aA), [b, d]⟩ : Formula)))).bind fun a => some (a.1, a.2))
noncomputable def mS  : List Formula → Int → Int → Int → aA → (List Formula) → Option ((Int × Int × Int × aA × (List Formula)))
  | [], d, g, h, i, b => some (d, g, h, i, b)
  | k :: j, d, g, h, i, b => (if (d != 0) then some (d, g, h, i, b) else (((rj ((⟨g, h, i, b⟩ : Formula)) k)).bind fun a => (mS j a.2 ((a.1).Op) ((a.1).K) ((a.1).aA) ((a.1).Kids))))
noncomputable def pk (j : List Formula) : Option ((Formula × Int)) :=
  (((dU j 0)).bind fun x6 => (((qJ x6)).bind fun a => (((lR (decide (0 ≤ 1) && decide (1 ≤ (j.length : Int))))).bind fun _ => ((mS ((j.drop (Int.toNat 1))) a.2 ((a.1).Op) ((a.1).K) ((a.1).aA) ((a.1).Kids) : Option ((Int × Int × Int × aA × (List Formula)))).bind fun (b, g, h, i, d) => (if (b != 0) then some ((⟨0, 0, (⟨zS, zS⟩ : aA), []⟩ : Formula), b) else some ((⟨g, h, i, d⟩ : Formula), 0))))))
noncomputable def nA  : List gM → (List Formula) → Option ((Formula × Int))
  | [], a => (((pk a)).bind fun b => some (b.1, b.2))
  | h :: d, a => (((eS 72 a ([h.aI]))).bind fun g => (nA d g))
noncomputable def uw (d : cR) (g : aB) : Option ((Formula × Int)) :=
  (((si d g)).bind fun a => (if (!a.2) then some ((⟨0, 0, (⟨zS, zS⟩ : aA), []⟩ : Formula), 42) else (((rk d g)).bind fun b => nA b ([(a.1).aI]))))
noncomputable def iQ (rec : Formula → (aA → Option Bool) → Option Bool) (h : aA → Option Bool) (d : Formula) : List Formula → Int → Option Bool
  | [], a => (if (d.Op == 2) then some (a == ((d.Kids.length : Int))) else (if (d.Op == 3) then some (decide (a > 0)) else some (decide (a ≥ d.K))))
  | i :: b, a => (((rec i h)).bind fun g => (if g then (iQ rec h d b ((IntKind.i64.wrap (a + 1)))) else (iQ rec h d b a)))
noncomputable def oD (rec : Formula → (aA → Option Bool) → Option Bool) (a : Formula) (b : aA → Option Bool) : Option Bool :=
  (if (a.Op == 1) then (((b a.aA)).bind fun d => some d) else iQ rec b a a.Kids 0)
noncomputable def jd : Nat → Formula → (aA → Option Bool) → Option Bool
  | 0 => fun _ _ => none
  | n + 1 => oD (jd n)
noncomputable def qf (d : Formula) (g : aA → Option Bool) : Option Bool :=
  (((ko d)).bind fun h => (((if h then (((jd bL d g)).bind fun a => some a) else some false) : Option Bool).bind fun b => some b))
noncomputable def jk (j : aA) (h : List (aA × (List (ByteArray × Bool)))) (a : List aB) (g : List (aA × (List aB))) (b : List (ByteArray × (List aB))) (d : List aV) (i : Int) (k : ByteArray) : Option Bool :=
  (((oG h a g b d i j k)).bind fun l => some l)
noncomputable def kf (l : cR) (d : ((List (aA × (List (ByteArray × Bool)))) × (List aB) × (List (aA × (List aB))) × (List (ByteArray × (List aB))) × (List aV) × Int × ByteArray)) : List cI → (List aB) → Option (List aB)
  | [], a => (((nP a)).bind fun j => some j)
  | g :: b, a => (((uw l g.Signed.aB)).bind fun r417 => (((if (r417.2 == 0) then (((qf r417.1 (fun (x : aA) => jk x d.1 d.2.1 d.2.2.1 d.2.2.2.1 d.2.2.2.2.1 d.2.2.2.2.2.1 d.2.2.2.2.2.2))).bind fun i => some i) else some false) : Option Bool).bind fun k => (if k then (((eS 136 a ([g.Signed.aB]))).bind fun h => (kf l d b h)) else (kf l d b a))))
noncomputable def jA (a : cR) (b : List aB) (d : ByteArray) : Option (List aB) :=
  (((ov b d)).bind fun g => kf a g a.aT ([]))
noncomputable def pK (a : aB) (b : List aB) : Option Bool :=
  (((km b a)).bind fun d => some (!d))
noncomputable def pZ (b d : List aB) : Option (List aB) :=
  (((iy b)).bind fun g => (((gF g (fun (x : aB) => pK x d))).bind fun a => some a))
noncomputable def gQ (h : fK) : Nat → (List aB) → (List aB) → Option (((List aB) × (List aB)))
  | 0, _, _ => none
  | i + 1, a, b => (((jA h.aC b h.Client.Name)).bind fun j => (((pZ a j)).bind fun d => (((jA h.Client a h.aC.Name)).bind fun r400 => (((pZ b r400)).bind fun g => (((if (((d.length : Int)) == ((a.length : Int))) then some ((((g.length : Int)) == ((b.length : Int)))) else some false) : Option Bool).bind fun k => (if k then some (a, b) else (gQ h i d g)))))))
noncomputable def iS (a : fK) : Option (((List aB) × (List aB))) :=
  (((nT a.aC)).bind fun b => (((nT a.Client)).bind fun d => gQ a bL b d))
noncomputable def iU (k l : cR) : Nat → (List aB) → (List aB) → Int → Option (((List aB) × (List aB) × Int))
  | 0, _, _, _ => none
  | i + 1, a, b, h => (((jA k b l.Name)).bind fun d => (((jA l a k.Name)).bind fun g => (((if (((d.length : Int)) == ((a.length : Int))) then some ((((g.length : Int)) == ((b.length : Int)))) else some false) : Option Bool).bind fun j => (if j then some (a, b, h) else (iU k l i d g ((IntKind.i64.wrap (h + 1))))))))
noncomputable def qS (a b : cR) : Option (((List aB) × (List aB) × Int)) :=
  iU a b bL ([]) ([]) 0
noncomputable def oF (a : aB) (b : List aB) : Option Bool :=
  (((km b a)).bind fun d => some d)
noncomputable def pf (b d : List aB) : Option (List aB) :=
  (((iy b)).bind fun g => (((gF g (fun (x : aB) => oF x d))).bind fun a => some a))
noncomputable def kF (d : fK) : Option (((List aB) × (List aB))) :=
  (((iS d)).bind fun a => (((qS d.aC d.Client)).bind fun b => (((pf a.1 b.1)).bind fun g => (((pf a.2 b.2.1)).bind fun h => some (g, h)))))
noncomputable def iM (a : cI) (b : aB) : Option Bool :=
  some (bT a.Signed.aB b)
noncomputable def jm (a : List cI) : Option (List cI) :=
  (((eS 232 ([]) a)).bind fun b => some b)
noncomputable def jC (a : fK) (j : Int) (m : aB) : Option ((fK × Bool)) :=
  (((if (decide (j < 0)) then some true else some ((decide (j ≥ 2)))) : Option Bool).bind fun k => (if k then some (a, false) else (if (j == 0) then (((fl a.aC.aT (fun (x : cI) => iM x m))).bind fun b => (if (decide (b < 0)) then some (a, false) else (((jm a.aC.aT)).bind fun g => (((dU g b)).bind fun l => some ((⟨(⟨a.aC.Name, (g.set (Int.toNat b) ((⟨l.Signed, (⟨2, 0, (⟨zS, zS⟩ : aA), []⟩ : Formula)⟩ : cI))), a.aC.bP⟩ : cR), (⟨a.Client.Name, a.Client.aT, a.Client.bP⟩ : cR), (⟨a.Formula.Op, a.Formula.K, a.Formula.aA, a.Formula.Kids⟩ : Formula), a.mj, a.fg, a.gl, a.jD, a.ig, a.Keys⟩ : fK), true))))) else (if (j == 1) then (((fl a.Client.aT (fun (x : cI) => iM x m))).bind fun d => (if (decide (d < 0)) then some (a, false) else (((jm a.Client.aT)).bind fun h => (((dU h d)).bind fun i => some ((⟨(⟨a.aC.Name, a.aC.aT, a.aC.bP⟩ : cR), (⟨a.Client.Name, (h.set (Int.toNat d) ((⟨i.Signed, (⟨2, 0, (⟨zS, zS⟩ : aA), []⟩ : Formula)⟩ : cI))), a.Client.bP⟩ : cR), (⟨a.Formula.Op, a.Formula.K, a.Formula.aA, a.Formula.Kids⟩ : Formula), a.mj, a.fg, a.gl, a.jD, a.ig, a.Keys⟩ : fK), true))))) else none))))
noncomputable def js (b : fK) : Option Bool :=
  (((kF b)).bind fun a => some (((IntKind.i64.wrap (((a.1.length : Int)) + ((a.2.length : Int))))) == 0))
noncomputable def oT  : Option Bool :=
  (((((gU ((⟨1, (⟨(⟨#[120]⟩ : ByteArray), (⟨#[122]⟩ : ByteArray)⟩ : aA), (⟨#[111, 119, 110]⟩ : ByteArray), (⟨zS, zS⟩ : aA), (⟨zS, zS⟩ : aA), zS⟩ : aB)) ((⟨(⟨#[120]⟩ : ByteArray), (⟨#[121]⟩ : ByteArray)⟩ : aA)))).bind fun A => (((gU ((⟨1, (⟨(⟨#[120]⟩ : ByteArray), (⟨#[121]⟩ : ByteArray)⟩ : aA), (⟨#[99, 108, 105]⟩ : ByteArray), (⟨zS, zS⟩ : aA), (⟨zS, zS⟩ : aA), zS⟩ : aB)) ((⟨(⟨#[120]⟩ : ByteArray), (⟨#[122]⟩ : ByteArray)⟩ : aA)))).bind fun D => some (((⟨#[111, 119, 110]⟩ : ByteArray)), A, ([]), ((⟨#[99, 108, 105]⟩ : ByteArray)), D, ([]), 0, 0, ((⟨zS, zS⟩ : aA)), ([]), 0, ((⟨0, 0⟩ : rF)), 0, 0, 0, ([]), zS, ([]), ([]), zS, ([]), ([]), 0, 0, ((⟨zS, zS⟩ : aA)), ([]), 0, ((⟨0, 0⟩ : rF)), 0, 0, 0, ([])))) : Option ((ByteArray × (List cI) × (List gM) × ByteArray × (List cI) × (List gM) × Int × Int × aA × (List Formula) × Int × rF × Int × Int × Int × (List Key) × ByteArray × (List cI) × (List gM) × ByteArray × (List cI) × (List gM) × Int × Int × aA × (List Formula) × Int × rF × Int × Int × Int × (List Key)))).bind fun (j, a, b, k, d, g, l, m, n, h, p, q, r, s, t, i, W, O, P, Y, Q, R, Z, a0, a1, T, a2, a3, a4, a5, a6, U) => (((kF ((⟨(⟨j, a, b⟩ : cR), (⟨k, d, g⟩ : cR), (⟨l, m, n, h⟩ : Formula), p, q, r, s, t, i⟩ : fK)))).bind fun u => (((iS ((⟨(⟨j, a, b⟩ : cR), (⟨k, d, g⟩ : cR), (⟨l, m, n, h⟩ : Formula), p, q, r, s, t, i⟩ : fK)))).bind fun v => (((jC ((⟨(⟨j, a, b⟩ : cR), (⟨k, d, g⟩ : cR), (⟨l, m, n, h⟩ : Formula), p, q, r, s, t, i⟩ : fK)) 1 ((⟨1, (⟨(⟨#[120]⟩ : ByteArray), (⟨#[121]⟩ : ByteArray)⟩ : aA), (⟨#[99, 108, 105]⟩ : ByteArray), (⟨zS, zS⟩ : aA), (⟨zS, zS⟩ : aA), zS⟩ : aB)))).bind fun w => (((jC ((⟨(⟨j, a, b⟩ : cR), (⟨k, d, g⟩ : cR), (⟨l, m, n, h⟩ : Formula), p, q, r, s, t, i⟩ : fK)) 0 ((⟨1, (⟨(⟨#[120]⟩ : ByteArray), (⟨#[121]⟩ : ByteArray)⟩ : aA), (⟨#[99, 108, 105]⟩ : ByteArray), (⟨zS, zS⟩ : aA), (⟨zS, zS⟩ : aA), zS⟩ : aB)))).bind fun x => (((if (((u.1.length : Int)) == 1) then some ((((u.2.length : Int)) == 1)) else some false) : Option Bool).bind fun E => (((if E then some ((((v.1.length : Int)) == 1)) else some false) : Option Bool).bind fun F => (((if F then some ((((v.2.length : Int)) == 1)) else some false) : Option Bool).bind fun G => (((if G then (((js ((⟨(⟨j, a, b⟩ : cR), (⟨k, d, g⟩ : cR), (⟨l, m, n, h⟩ : Formula), p, q, r, s, t, i⟩ : fK)))).bind fun z => some ((!z))) else some false) : Option Bool).bind fun I => (((if I then some w.2 else some false) : Option Bool).bind fun J => (((if J then some ((!x.2)) else some false) : Option Bool).bind fun L => (((if L then (((js w.1)).bind fun y => some y) else some false) : Option Bool).bind fun M => some M))))))))))))
noncomputable def lu (rec : (List Formula) → Option Int) : List Formula → Int → Option Int
  | [], b => some b
  | a :: g, b => (((rec a.Kids)).bind fun d => (lu rec g ((IntKind.i64.wrap (b + ((IntKind.i64.wrap (((IntKind.i64.wrap (1 + ((IntKind.i64.wrap (Int.tdiv ((IntKind.i64.wrap (((a.aA.aC.size : Int)) + ((a.aA.aJ.size : Int))))) 16)))))) + d))))))))
noncomputable def pQ (rec : (List Formula) → Option Int) (a : List Formula) : Option Int :=
  lu rec a 0
noncomputable def gW : Nat → (List Formula) → Option Int
  | 0 => fun _ => none
  | n + 1 => pQ (gW n)
noncomputable def kV  : List gM → Int → Option Int
  | [], b => some b
  | a :: d, b => (((gW bL ([a.aI]))).bind fun g => (((oR a.eQ)).bind fun h => (kV d ((IntKind.i64.wrap (b + ((IntKind.i64.wrap (((IntKind.i64.wrap (((IntKind.i64.wrap (((a.aA.aC.size : Int)) + ((a.aA.aJ.size : Int))))) + ((IntKind.i64.wrap (20 * g)))))) + h)))))))))
noncomputable def ld (l : cR) : List cI → Int → Option Int
  | [], a => ((kV l.bP a : Option Int).bind fun d => some d)
  | b :: g, a => (((((ny ([]) ([b.Signed]))).bind fun j => some (j, ([b.aI]))) : Option ((Int × (List Formula)))).bind fun (k, h) => (((gW bL h)).bind fun i => (ld l g ((IntKind.i64.wrap (a + ((IntKind.i64.wrap (k + ((IntKind.i64.wrap (20 * i))))))))))))
noncomputable def oQ (a : cR) : Option Int :=
  ld a a.aT ((a.Name.size : Int))
noncomputable def rh (j : fK) : Option Int :=
  (((((oQ j.aC)).bind fun g => (((oQ j.Client)).bind fun h => some (((IntKind.i64.wrap (g + h))), ([j.Formula])))) : Option ((Int × (List Formula)))).bind fun (i, a) => (((gW bL a)).bind fun b => (((ny j.Keys ([]))).bind fun d => some (IntKind.i64.wrap (((IntKind.i64.wrap (i + ((IntKind.i64.wrap (20 * b)))))) + d)))))
noncomputable def mQ  : List cI → (List aB) → Option (List aB)
  | [], a => (((nV a)).bind fun d => some d)
  | h :: g, a => (((eS 136 a ([h.Signed.aB]))).bind fun b => (mQ g b))
noncomputable def qW (a : cR) : Option (List aB) :=
  mQ a.aT ([])
noncomputable def jM (h : ByteArray) : List aV → (List aA) → Option (List aA)
  | [], a => some a
  | g :: b, a => (if (dA g.cH h) then (((eS 32 a ([g.aA]))).bind fun d => (jM h b d)) else (jM h b a))
noncomputable def oS (a : List aV) (b : ByteArray) : Option (List aA) :=
  jM b a ([])
noncomputable def kU (rec : Formula → Option Int) : List Formula → Int → Option Int
  | [], a => some a
  | g :: d, a => (((rec g)).bind fun b => (kU rec d ((IntKind.i64.wrap (a + b)))))
noncomputable def pU (rec : Formula → Option Int) (a : Formula) : Option Int :=
  kU rec a.Kids 1
noncomputable def kG : Nat → Formula → Option Int
  | 0 => fun _ => none
  | n + 1 => pU (kG n)
noncomputable def mc (rec : Formula → Option Int) : List Formula → Int → Option Int
  | [], a => some (IntKind.i64.wrap (a + 1))
  | g :: d, a => (((rec g)).bind fun b => (mc rec d ((if b > a then b else a))))
noncomputable def qI (rec : Formula → Option Int) (a : Formula) : Option Int :=
  mc rec a.Kids 0
noncomputable def lM : Nat → Formula → Option Int
  | 0 => fun _ => none
  | n + 1 => qI (lM n)
noncomputable def ma (rec : Formula → Option Bool) : List Formula → Option Bool
  | [] => some true
  | d :: a => (((rec d)).bind fun b => (if (!b) then some false else (ma rec a)))
noncomputable def qG (rec : Formula → Option Bool) (a : Formula) : Option Bool :=
  (if (a.Op == 1) then (((mn a.aA)).bind fun p => (((if p then some ((((a.Kids.length : Int)) == 0)) else some false) : Option Bool).bind fun i => (((if i then some ((a.K == 0)) else some false) : Option Bool).bind fun j => some j))) else (((if (decide (a.Op < 1)) then some true else some ((decide (a.Op > 4)))) : Option Bool).bind fun k => (((if k then some true else some ((!(bB a.aA ((⟨zS, zS⟩ : aA)))))) : Option Bool).bind fun l => (((if l then some true else some ((decide (((a.Kids.length : Int)) > 8)))) : Option Bool).bind fun m => (if m then some false else (((if (decide (a.Op < 4)) then some ((a.K != 0)) else some false) : Option Bool).bind fun n => (((if n then some true else (((if (a.Op == 4) then (((if (decide (((a.Kids.length : Int)) < 1)) then some true else some ((decide (a.K < 0)))) : Option Bool).bind fun g => (((if g then some true else some ((decide (a.K > ((a.Kids.length : Int)))))) : Option Bool).bind fun h => some h)) else some false) : Option Bool).bind fun d => some d)) : Option Bool).bind fun b => (if b then some false else ma rec a.Kids))))))))
noncomputable def lJ : Nat → Formula → Option Bool
  | 0 => fun _ => none
  | n + 1 => qG (lJ n)
noncomputable def kH (a : Formula) : Option Bool :=
  (((kG bL a)).bind fun i => (((if (decide (i ≤ 64)) then (((lM bL a)).bind fun d => some ((decide (d ≤ 6)))) else some false) : Option Bool).bind fun g => (((if g then (((lJ bL a)).bind fun b => some b) else some false) : Option Bool).bind fun h => some h)))
noncomputable def oa (a : Formula) (b : Int) : Option Bool :=
  (((if (a.Op == b) then some ((((a.Kids.length : Int)) == 0)) else some false) : Option Bool).bind fun x6 => some x6)
noncomputable def lj (rec : Formula → Option ByteArray) : List Formula → ByteArray → Option ByteArray
  | [], a => some a
  | h :: g, a => (((rec h)).bind fun b => (((pW a b)).bind fun d => (lj rec g d)))
noncomputable def qb (rec : Formula → Option ByteArray) (a : Formula) : Option ByteArray :=
  (((jT a.Op)).bind fun h => (if (a.Op == 1) then (((ms a.aA)).bind fun l => (((pW h l)).bind fun i => some i)) else (((if (a.Op == 4) then (((jT a.K)).bind fun b => (((pW h b)).bind fun d => some d)) else some h) : Option ByteArray).bind fun k => (((jT ((a.Kids.length : Int)))).bind fun g => (((pW k g)).bind fun j => lj rec a.Kids j)))))
noncomputable def iT : Nat → Formula → Option ByteArray
  | 0 => fun _ => none
  | n + 1 => qb (iT n)
noncomputable def pJ (j k : Formula) : Option Int :=
  (((((kH j)).bind fun h => (if h then (((iT bL j)).bind fun i => some i) else some zS)) : Option ByteArray).bind fun a => (((((kH k)).bind fun d => (if d then (((iT bL k)).bind fun g => some g) else some zS)) : Option ByteArray).bind fun b => (if (jz a b) then some (-1) else (if (!(jz a b || dA a b)) then some 1 else some 0))))
noncomputable def lY (i : Formula) (rec : Formula → Formula → Option Bool) : List Formula → Nat → Option Bool
  | [], _ => some true
  | g :: b, a => (((dU i.Kids ((a : Int)))).bind fun h => (((rec g h)).bind fun d => (if (!d) then some false else (lY i rec b (a + 1)))))
noncomputable def qH (rec : Formula → Formula → Option Bool) (a b : Formula) : Option Bool :=
  (((if (a.Op != b.Op) then some true else some ((a.K != b.K))) : Option Bool).bind fun d => (((if d then some true else some ((!(bB a.aA b.aA)))) : Option Bool).bind fun g => (((if g then some true else some ((((a.Kids.length : Int)) != ((b.Kids.length : Int))))) : Option Bool).bind fun h => (if h then some false else lY b rec a.Kids 0))))
noncomputable def kw : Nat → Formula → Formula → Option Bool
  | 0 => fun _ _ => none
  | n + 1 => qH (kw n)
noncomputable def ja (b : List Formula) (d : Formula) : Nat → Int → Option Int
  | 0, _ => none
  | g + 1, a => (((if (decide (a > 0)) then (((dU b ((IntKind.i64.wrap (a - 1))))).bind fun j => (((pJ j d)).bind fun h => some ((decide (h > 0))))) else some false) : Option Bool).bind fun i => (if i then (ja b d g ((IntKind.i64.wrap (a - 1)))) else some a))
noncomputable def eT (p : Bool) : List Formula → (List Formula) → Option (List Formula)
  | [], a => some a
  | d :: g, a => ((ja a d bL ((a.length : Int)) : Option Int).bind fun b => (((if p then some ((decide (b > 0))) else some false) : Option Bool).bind fun l => (((if l then (((dU a ((IntKind.i64.wrap (b - 1))))).bind fun n => (((kw bL n d)).bind fun k => some k)) else some false) : Option Bool).bind fun m => (if m then (eT p g a) else (((lR (decide (0 ≤ b) && decide (b ≤ (a.length : Int))))).bind fun _ => (((eS 72 ([]) ((a.take (Int.toNat b))))).bind fun h => (((eS 72 h ([d]))).bind fun i => (((lR (decide (0 ≤ b) && decide (b ≤ (a.length : Int))))).bind fun _ => (((eS 72 i ((a.drop (Int.toNat b))))).bind fun j => (eT p g j))))))))))
noncomputable def ow (a : List Formula) (b : Bool) : Option (List Formula) :=
  eT b a ([])
noncomputable def iJ (g : Int) (h : cY) : List Formula → Option ((((Formula × cY)) ⊕ Unit))
  | [] => some (Sum.inr ())
  | d :: a => (((oa d ((IntKind.i64.wrap (5 - g))))).bind fun b => (if b then some (Sum.inl ((⟨(IntKind.i64.wrap (5 - g)), 0, (⟨zS, zS⟩ : aA), []⟩ : Formula), h)) else (iJ g h a)))
noncomputable def fG (i : Int) (j : cY) : List Formula → (List Formula) → Option ((Formula × cY))
  | [], a => ((iJ i j a : Option ((((Formula × cY)) ⊕ Unit))).bind fun s => match s with | .inl m => some m | .inr _ => (((ow a true)).bind fun b => (((if j.I1 then some true else some ((decide (((b.length : Int)) > 64)))) : Option Bool).bind fun h => (if (((b.length : Int)) == 1) then (((dU b 0)).bind fun p => some (p, (⟨h⟩ : cY))) else some ((⟨i, 0, (⟨zS, zS⟩ : aA), b⟩ : Formula), (⟨h⟩ : cY))))))
  | d :: g, a => (if (d.Op == i) then (((eS 72 a d.Kids)).bind fun k => (fG i j g k)) else (((oa d ((IntKind.i64.wrap (5 - i))))).bind fun n => (if n then some ((⟨(IntKind.i64.wrap (5 - i)), 0, (⟨zS, zS⟩ : aA), []⟩ : Formula), j) else (((eS 72 a ([d]))).bind fun l => (fG i j g l)))))
noncomputable def iE (a : cY) (b : Int) (d : List Formula) : Option ((Formula × cY)) :=
  fG b a d ([])
noncomputable def fw  : List Formula → Int → (List Formula) → Option ((Int × (List Formula)))
  | [], b, a => some (b, a)
  | g :: d, b, a => (((oa g 2)).bind fun i => (if i then (fw d ((IntKind.i64.wrap (b - 1))) a) else (((oa g 3)).bind fun j => (if (!j) then (((eS 72 a ([g]))).bind fun h => (fw d b h)) else (fw d b a)))))
noncomputable def fP (rec : cY → Formula → Option ((Formula × cY))) (q : Formula) : List Formula → (List Formula) → cY → Option ((Formula × cY))
  | [], g, a => (if (decide (q.Op < 4)) then (((iE a q.Op g)).bind fun i => some (i.1, i.2)) else ((fw g q.K ([]) : Option ((Int × (List Formula)))).bind fun (d, b) => (if (decide (d ≤ 0)) then some ((⟨2, 0, (⟨zS, zS⟩ : aA), []⟩ : Formula), a) else (if (decide (d > ((b.length : Int)))) then some ((⟨3, 0, (⟨zS, zS⟩ : aA), []⟩ : Formula), a) else (if (d == ((b.length : Int))) then (((iE a 2 b)).bind fun j => some (j.1, j.2)) else (if (d == 1) then (((iE a 3 b)).bind fun k => some (k.1, k.2)) else (((ow b false)).bind fun n => some ((⟨4, d, (⟨zS, zS⟩ : aA), n⟩ : Formula), a))))))))
  | p :: l, g, a => (((rec a p)).bind fun h => (((eS 72 g ([h.1]))).bind fun m => (fP rec q l m h.2)))
noncomputable def lP (rec : cY → Formula → Option ((Formula × cY))) (b : cY) (a : Formula) : Option ((Formula × cY)) :=
  (if (a.Op == 1) then some (a, b) else fP rec a a.Kids ([]) b)
noncomputable def fE : Nat → cY → Formula → Option ((Formula × cY))
  | 0 => fun _ _ => none
  | n + 1 => lP (fE n)
noncomputable def sD (g : Formula) : Option ((Formula × Int)) :=
  (((kH g)).bind fun h => (if (!h) then some ((⟨0, 0, (⟨zS, zS⟩ : aA), []⟩ : Formula), 11) else (((fE bL ((⟨false⟩ : cY)) g)).bind fun a => (((if a.2.I1 then some true else (((kH a.1)).bind fun b => some ((!b)))) : Option Bool).bind fun d => (if d then some ((⟨0, 0, (⟨zS, zS⟩ : aA), []⟩ : Formula), 12) else some (a.1, 0))))))
noncomputable def mu (n : aB) : List gM → Int → Int → Int → aA → (List Formula) → Option ((Int × Int × Int × aA × (List Formula)))
  | [], d, g, h, i, b => some (d, g, h, i, b)
  | k :: j, d, g, h, i, b => (((if (d == 0) then (((po k.eQ n)).bind fun l => some l) else some false) : Option Bool).bind fun m => (if m then (((sD ((⟨2, 0, (⟨zS, zS⟩ : aA), [(⟨g, h, i, b⟩ : Formula), k.aI]⟩ : Formula)))).bind fun a => (mu n j a.2 ((a.1).Op) ((a.1).K) ((a.1).aA) ((a.1).Kids))) else (mu n j d g h i b)))
noncomputable def oX (l : aB) (m : cR) : List cI → Option ((Formula × Int))
  | [] => some ((⟨0, 0, (⟨zS, zS⟩ : aA), []⟩ : Formula), 42)
  | b :: g => (if (!(bT b.Signed.aB l)) then (oX l m g) else (((sD b.aI)).bind fun a => ((mu l m.bP a.2 ((a.1).Op) ((a.1).K) ((a.1).aA) ((a.1).Kids) : Option ((Int × Int × Int × aA × (List Formula)))).bind fun (d, i, j, k, h) => (if (d != 0) then some ((⟨0, 0, (⟨zS, zS⟩ : aA), []⟩ : Formula), d) else some ((⟨i, j, k, h⟩ : Formula), 0)))))
noncomputable def uA (a : cR) (b : aB) : Option ((Formula × Int)) :=
  oX b a a.aT
noncomputable def qy (d : aA) : List aA → Option Bool
  | [] => some false
  | b :: a => (if (bB b d) then some true else (qy d a))
noncomputable def tq (a : List aA) (b : aA) : Option Bool :=
  qy b a
noncomputable def kx (rec : Formula → (List aA) → Option Bool) (h : List aA) (d : Formula) : List Formula → Int → Option Bool
  | [], a => (if (d.Op == 2) then some (a == ((d.Kids.length : Int))) else (if (d.Op == 3) then some (decide (a > 0)) else some (decide (a ≥ d.K))))
  | i :: b, a => (((rec i h)).bind fun g => (if g then (kx rec h d b ((IntKind.i64.wrap (a + 1)))) else (kx rec h d b a)))
noncomputable def qF (rec : Formula → (List aA) → Option Bool) (a : Formula) (b : List aA) : Option Bool :=
  (if (a.Op == 1) then (((tq b a.aA)).bind fun d => some d) else kx rec b a a.Kids 0)
noncomputable def lQ : Nat → Formula → (List aA) → Option Bool
  | 0 => fun _ _ => none
  | n + 1 => qF (lQ n)
noncomputable def kp (m : cR) (h : List aA) : List cI → (List aB) → Option (List aB)
  | [], a => (((nV a)).bind fun k => some k)
  | g :: b, a => (((uA m g.Signed.aB)).bind fun d => (((if (d.2 == 0) then (((lQ bL d.1 h)).bind fun j => some j) else some false) : Option Bool).bind fun l => (if l then (((eS 136 a ([g.Signed.aB]))).bind fun i => (kp m h b i)) else (kp m h b a))))
noncomputable def mZ (b : cR) (d : List aB) (g : ByteArray) : Option (List aB) :=
  (((qp d)).bind fun h => (((oS h g)).bind fun a => kp b a b.aT ([])))
noncomputable def kh (i : List aB) : List aB → (List aB) → Option (List aB)
  | [], a => some a
  | h :: b, a => (((po i h)).bind fun g => (if g then (((eS 136 a ([h]))).bind fun d => (kh i b d)) else (kh i b a)))
noncomputable def pM (a b : List aB) : Option (List aB) :=
  kh b a ([])
noncomputable def jH (h : fK) : Nat → (List aB) → (List aB) → Option (((List aB) × (List aB)))
  | 0, _, _ => none
  | i + 1, a, b => (((mZ h.aC b h.Client.Name)).bind fun r417 => (((pM a r417)).bind fun d => (((mZ h.Client a h.aC.Name)).bind fun j => (((pM b j)).bind fun g => (((fW d a)).bind fun k => (((if k then (((fW g b)).bind fun l => some l) else some false) : Option Bool).bind fun m => (if m then some (d, g) else (jH h i d g))))))))
noncomputable def pe (a : fK) : Option (((List aB) × (List aB))) :=
  (((qW a.aC)).bind fun b => (((qW a.Client)).bind fun d => jH a bL b d))
noncomputable def mA (m n : cR) : Nat → (List aB) → (List aB) → Int → Option (((List aB) × (List aB) × Int))
  | 0, _, _, _ => none
  | i + 1, a, b, h => (((mZ m b n.Name)).bind fun d => (((mZ n a m.Name)).bind fun g => (((fW d a)).bind fun j => (((if j then (((fW g b)).bind fun k => some k) else some false) : Option Bool).bind fun l => (if l then some (a, b, h) else (mA m n i d g ((IntKind.i64.wrap (h + 1)))))))))
noncomputable def xa (a b : cR) : Option (((List aB) × (List aB) × Int)) :=
  mA a b bL ([]) ([]) 0
noncomputable def jI (i : List aB) : List aB → (List aB) → Option (List aB)
  | [], a => some a
  | h :: b, a => (((po i h)).bind fun g => (if (!g) then (((eS 136 a ([h]))).bind fun d => (jI i b d)) else (jI i b a)))
noncomputable def oY (a b : List aB) : Option (List aB) :=
  jI b a ([])
noncomputable def rb (d : fK) : Option (((List aB) × (List aB))) :=
  (((pe d)).bind fun a => (((xa d.aC d.Client)).bind fun b => (((oY a.1 b.1)).bind fun g => (((oY a.2 b.2.1)).bind fun h => some (g, h)))))
noncomputable def nN (b : fK) : Option Bool :=
  (oT.bind fun q => (if (!q) then some false else (((rh b)).bind fun r => (if (decide (r > 6000)) then some true else (((iS b)).bind fun j => (((pe b)).bind fun k => (((kF b)).bind fun l => (((rb b)).bind fun a => (((fW j.1 k.1)).bind fun s => (((if s then (((fW j.2 k.2)).bind fun i => some i) else some false) : Option Bool).bind fun t => (((if t then (((fW l.1 a.1)).bind fun h => some h) else some false) : Option Bool).bind fun m => (((if m then (((fW l.2 a.2)).bind fun g => some g) else some false) : Option Bool).bind fun n => (((if n then (((js b)).bind fun d => some ((d == ((((IntKind.i64.wrap (((a.1.length : Int)) + ((a.2.length : Int))))) == 0))))) else some false) : Option Bool).bind fun p => some p)))))))))))))
end Go.Proofs.YtmlncblocfcmiaaGreat
