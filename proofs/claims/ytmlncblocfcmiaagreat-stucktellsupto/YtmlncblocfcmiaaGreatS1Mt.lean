/- a part of a proof of StuckTells -/
import Derived.Test.YtmlncblocfcmiaaGreatRtVt
import Derived.Shelf.SlSortCmp.NoneTotal
import Derived.Shelf.SortM.Plain
import Derived.Shelf.SortM.SortNone
import Derived.Shelf.SlIter.Sorted
import Derived.Shelf.SlIter.Nil
import Derived.Test.YtmlncblocfcmiaaGreatProg
import Derived.KernelRfl
set_option linter.all false
namespace Go.Proofs.YtmlncblocfcmiaaGreat
open Go.RowKit
section
variable {dd : Bool}
def uV {α : Type} (R : jq α) : bW → List Value → α → Prop := fun μ vs x => ∃ ys, vs = [.agg ys.toArray] ∧ R μ ys x
def oO {α β : Type} (R : jq α) (S : jq β) : bW → List Value → α × β → Prop := fun μ vs x => ∃ ys zs, vs = [.agg ys.toArray, .agg zs.toArray] ∧ R μ ys x.1 ∧ S μ zs x.2
theorem uV.mk {α : Type} {R : jq α} {k : Nat} {μ μ' : bW} {ys : List Value} {x : α} (a : Deep R k) (h : R μ ys x) (b : bO μ μ') : uV R μ' [.agg ys.toArray] x := ⟨ys, rfl, a.mono _ _ _ _ b h⟩
theorem oO.mk {α β : Type} {R : jq α} {S : jq β} {k m : Nat} {μ μ' : bW} {ys zs : List Value} {x : α} {y : β} (d : Deep R k) (g : Deep S m) (h : R μ ys x) (b : S μ zs y) (a : bO μ μ') : oO R S μ' [.agg ys.toArray, .agg zs.toArray] (x, y) :=
  ⟨ys, zs, rfl, d.mono _ _ _ _ a h, g.mono _ _ _ _ a b⟩
def qP {α β : Type} (P : Program) (fv : Value) (μ : bW) (a : bW → List Value → α → Prop) (b : β → Value) (pm : α → Option β) : Prop :=
  ∃ f first caps, fv = .func (.func f) first caps ∧ (∀ args w, (callFunc f args).run P w = .ok (.enter f args) w) ∧ ∀ W x vs r, bO μ (hp W) → a (hp W) vs x → pm x = some r → bF false P f (first.toList ++ (vs ++ caps.toList)) W (b r)
theorem qP.form {α β : Type} {P : Program} {fv : Value} {μ : bW} {d : bW → List Value → α → Prop} {g : β → Value} {pm : α → Option β} (h : qP P fv μ d g pm) : ∃ f a b, fv = .func f a b := let ⟨f, a, b, h, _⟩ := h; ⟨_, a, b, h⟩
end
section
variable {P : Program} {W : World} {E : Nat → Value} {d : Option Nat} {ty : TypeId} {pos : String} {af : Array Edge} {g : Option (Nat × Bool)} {F : Nat → Prop} {w : World} {μ μ0 : bW} {L : List (Nat × Obj)}
theorem qP.mono {α β : Type} {fv : Value} {a : bW → List Value → α → Prop} {b : β → Value} {pm : α → Option β} (h : qP P fv μ a b pm) (i : bO μ μ0) : qP P fv μ0 a b pm := by
  obtain ⟨f, first, caps, h1, d, g⟩ := h
  exact ⟨f, first, caps, h1, d, fun W x vs r h => g W x vs r (i.trans h)⟩
theorem rT {α β : Type} {K : Value → World → Prop} {fv : Value} {j : bW → List Value → α → Prop} {k : β → Value} {pm : α → Option β} {b : Operand} {ax : Array Operand} {ats : Array TypeId} (x : α) {vs : List Value} {r : β} (a : ST false F w W μ L) (s : qP P fv μ0 j k pm) (u : bO μ0 μ) (q : j (hp W) vs x) (t : aS E b = fv) (ha : ax.map (aS E) ++ (#[] : Array Value) = vs.toArray) (hm : pm x = some r) (h : ∀ W', ST false F w W' μ L → K (k r) W') : fT P E ⟨d, .call ⟨.value b, ax, ats⟩, ty, pos, af, g⟩ W K := by
  obtain ⟨f, first, caps, rfl, l, m⟩ := s
  have i : ax.map (aS E) = vs.toArray := by simpa using ha
  refine .inr (.inr ⟨f, (first.toList ++ (vs ++ caps.toList)).toArray, ?_, Calls.mono (m W x vs r (u.trans a.aP) q hm) (fun _ _ ⟨n, p⟩ => ⟨_, n, h _ (a.DO p)⟩)⟩)
  show (do let d ← resolve (aS E) ⟨.value b, ax, ats⟩ ty; invoke d.target d.args : Sem Next).run P W = _
  simp only [resolve, t, Deferred.ofValue, Sem.run_bind, Sem.run_pure, Result.andThen_ok, invoke, i, l]
  congr 2
  simp
end
section
variable {dd : Bool}
variable {β : Type} {Rl : jq β} {k : Nat} {μ : bW} {v : Value} {l : List β} {e : TypeId} {B : List (Nat × Obj)}
variable {F : Nat → Prop} {w W : World} {L : List (Nat × Obj)}
variable {P : Program} {E : Nat → Value} {d : Option Nat} {ty : TypeId} {pos : String} {af : Array Edge} {g : Option (Nat × Bool)}
theorem ED {α : Type} {enc : α → List Value} (hk : ∀ x, (enc x).length = k) (d : 0 < k) (g : ∀ x y, enc x = enc y → x = y) : ∀ {l m : List α}, (l.map enc).flatten = (m.map enc).flatten → l = m
  | [], [], _ => rfl
  | [], b :: m, h => by
    have := congrArg List.length h
    simp only [List.map_nil, List.flatten_nil, List.length_nil, List.map_cons, List.flatten_cons, List.length_append, hk] at this
    omega
  | a :: l, [], h => by
    have := congrArg List.length h
    simp only [List.map_nil, List.flatten_nil, List.length_nil, List.map_cons, List.flatten_cons, List.length_append, hk] at this
    omega
  | a :: l, b :: m, h => by
    simp only [List.map_cons, List.flatten_cons] at h
    obtain ⟨h1, i⟩ := List.append_inj h (by rw [hk, hk])
    rw [g _ _ h1, ED hk d g i]
theorem MY (x y : qC k) (h : oK x = oK y) : x = y := Subtype.ext h
theorem bG.pre {v1 : Value} {cl a : List (qC k)} (d : 0 < k) (h : bG e oK k v cl B) (h1 : bG e oK k v1 a B) (b : a.length ≤ cl.length) : a = cl.take a.length := by
  rcases h with ⟨rfl, rfl, rfl⟩ | ⟨q, cap, cur, rfl, rfl, r, s, t, n⟩
  · simp at b; simp [b]
  · rcases h1 with ⟨_, _, h⟩ | ⟨g1, g, i, rfl, j, p, a2, a3, a4⟩
    · cases h
    · cases j
      refine ED rW d MY ?_
      rw [← a4]
      have hle : a.length * k ≤ cl.length * k := Nat.mul_le_mul_right _ b
      have : cur.toList.take (a.length * k) = (cur.toList.take (cl.length * k)).take (a.length * k) := by rw [List.take_take, Nat.min_eq_left hle]
      rw [this, n]
      have l : (cl.map oK).flatten = ((cl.take a.length).map oK).flatten ++ ((cl.drop a.length).map oK).flatten := by rw [← List.flatten_append, ← List.map_append, List.take_append_drop]
      have m : ((cl.take a.length).map oK).flatten.length = a.length * k := by rw [jt rW, List.length_take, Nat.min_eq_left b]
      rw [l, ← m, List.take_left]
theorem iY.replicate {α β : Type} {Q : α → β → Prop} {a : α} {b : β} (h : Q a b) : ∀ n, iY Q (List.replicate n a) (List.replicate n b)
  | 0 => .nil
  | n + 1 => .cons h (iY.replicate h n)
theorem iY.MT {α β : Type} {Q : α → β → Prop} {l : List α} {m : List β} (h : iY Q l m) {a : α} {b : β} (d : Q a b) (i : Nat) : iY Q (ib l i a) (ib m i b) := by
  unfold ib
  rw [h.length]
  exact (h.take i).append (iY.replicate d _)
theorem xa {t e' : TypeId} {x ih : Operand} {u : IntKind} {i : Int} (r : P.underlying t = some (.slice e')) (he : ∀ w, (sizeOf e').run P w = .ok k w) (s : aS E x = v) (p : aS E ih = .int u i) (h : cL e Rl k μ v l B) (j : 0 ≤ i) (q : i ≤ l.length) :
    ∃ a, cL e Rl k μ a (l.take i.toNat) B ∧ ∀ W, et P E ⟨d, .slice t x none (some ih) none, ty, pos, af, g⟩ W a W := by
  obtain ⟨cl, h1, b⟩ := h
  obtain ⟨a, m, n⟩ := xZ (d := d) (ty := ty) (pos := pos) (af := af) (g := g) r he s p h1 rW j (by rw [b.length]; exact q)
  exact ⟨a, ⟨_, m, b.take _⟩, n⟩
theorem vn {t e' : TypeId} {x a : Operand} {r : IntKind} {i : Int} (p : P.underlying t = some (.slice e')) (he : ∀ w, (sizeOf e').run P w = .ok k w) (q : aS E x = v) (m : aS E a = .int r i) (h : cL e Rl k μ v l B) (b : 0 ≤ i) (n : i ≤ l.length) :
    ∃ u, uC k v i.toNat u ∧ ∀ W, et P E ⟨d, .slice t x (some a) none none, ty, pos, af, g⟩ W u W := by
  obtain ⟨cl, h1, j⟩ := h
  exact tu p he q m h1 b (by rw [j.length]; exact n)
theorem Gm {t e' : TypeId} {x : Operand} {u : Value} {i : Nat} (b : P.underlying t = some (.slice e')) (j : aS E x = u) (hu : uC k v i u) (h : cL e Rl k μ v l B) : et P E ⟨d, .call ⟨.builtin .len, #[x], #[t]⟩, ty, pos, af, g⟩ W (.int .i64 ((l.length - i : Nat) : Int)) W := by
  obtain ⟨cl, h1, a⟩ := h
  rw [← a.length]
  exact CP b j hu h1
theorem uO {t e' : TypeId} {x j : Operand} {G : IntKind} {i : Int} {x0 : β} {u : Value} {o : Nat} {A : List Value → Prop} (y : ∀ {ys}, Rl μ ys x0 → A ys) (D : P.underlying t = some (.slice e')) (he : ∀ w, (sizeOf e').run P w = .ok k w) (F : aS E x = u) (r : aS E j = .int G i) (h : cL e Rl k μ v l B) (hu : uC k v o u) (m : 0 ≤ i) (s : (l.drop o)[i.toNat]? = some x0) :
    ∃ p, (∃ ys, A ys ∧ At (uj B) p ys ∧ uu B k p (o + i.toNat)) ∧ ∀ W, et P E ⟨d, .indexAddr t x j, ty, pos, af, g⟩ W p W := by
  obtain ⟨cl, h1, n⟩ := h
  obtain ⟨c, b, z⟩ := (n.drop o).get s
  obtain ⟨p, a, q⟩ := tz (d := d) (ty := ty) (pos := pos) (af := af) (g := g) D he F r h1 hu m b
  exact ⟨p, ⟨c.1, y z, a.at h1 rW (vl b), a⟩, q⟩
theorem zg {K : Value → World → Prop} {z : β} {zs : List Value} {Y : List (Nat × Obj)} {t e' : TypeId} {x : Operand} {u j : Value} {i : Nat} (p : Deep Rl k) (b : ST dd F w W μ (B ++ Y)) (h : cL e Rl k μ v l B) (a : Rl μ zs z) (s : P.underlying t = some (.slice e')) (A : ∀ w, (zeroValue e').run P w = .ok j w) (hu : uC k v i u) (r : j.cells = zs.toArray) (y : aS E x = u) (q : ∀ W' R', ST dd F w W' μ (R' ++ Y) → cL e Rl k μ v (ib l i z) R' → K (.tuple #[]) W') : fT P E ⟨d, .call ⟨.builtin .clear, #[x], #[t]⟩, ty, pos, af, g⟩ W K := by
  obtain ⟨cl, h1, n⟩ := h
  exact wy (p.cell a) b h1 rW II s A hu r y (fun W' R' m a2 => q W' R' m ⟨_, a2, n.MT a i⟩)
end
section
variable {P : Program} {W : World} {E : Nat → Value} {d : Option Nat} {ty : TypeId} {pos : String} {af : Array Edge} {g : Option (Nat × Bool)}
theorem HY {i p : TypeId} {x y : Operand} {fv : Value} {s u : Array TypeId} {j : Bool} (l : P.underlying i = some (.func s u j)) (h : ∃ f a b, fv = .func f a b) (m : aS E x = fv) (n : aS E y = .nilFunc) :
    et P E ⟨d, .binOp .neq i x y p, ty, pos, af, g⟩ W (.bool true) W := by
  obtain ⟨f, a, b, rfl⟩ := h
  show (do let r ← (do eqGuard .neq i x y (aS E x) (aS E y); binOp .neq i (aS E x) (aS E y)); pure (.value r) : Sem Next).run P W = _
  rw [m, n]
  have k := Ay 9999 l f a b W
  simp [eqGuard, binOp, Op.equal, show Op.maxDepth = 9999 + 1 from rfl, k]
end
end Go.Proofs.YtmlncblocfcmiaaGreat
namespace Go.Proofs.YtmlncblocfcmiaaGreat
open Go.RowKit
theorem bS {α β : Type} {m : Option α} {f : α → Option β} {r : β} {G : Prop} (h : m.bind f = some r) (k : ∀ x, m = some x → f x = some r → G) : G :=
  let ⟨x, a, b⟩ := bind_some h
  k x a b
theorem sj {α : Type} {a b : α} (h : some a = some b) : a = b := Option.some.inj h
theorem bC {α : Type} {b : Bool} {x y r : α} {G : Prop} (h : (if b = true then x else y) = r) (a : b = true → x = r → G) (d : b = false → y = r → G) : G := by
  rcases GB b with e | e
  · exact a e (Ls e h)
  · exact d e (Lj e h)
theorem cB {a b : Bool} (h : a = b) : Value.bool a = Value.bool b := congrArg Value.bool h
theorem nb {a b : Nat} (h : Nat.ble a b = true := by exact rfl) : a ≤ b := Nat.le_of_ble_eq_true h
def MF : Nat → Nat → List Bool
  | 0, _ => []
  | n + 1, m => (m % 2 == 1) :: MF n (m / 2)
def bm (n m : Nat) : Array Bool := (MF n m).toArray
section
variable {P : Program} {n : Nat} {Q : ko} {E : Nat → Value} {W : World}
theorem CI {α : Type} {co : Operand} {b : Bool} {x y : Code} {A B r : α} (hm : (if b = true then A else B) = r) (a : aS E co = .bool b) (g : b = true → A = r → CW P n x Q E W) (d : b = false → B = r → CW P n y Q E W) : CW P n (.cond co x y) Q E W :=
  Gw a (fun e => g e (Ls e hm)) (fun e => d e (Lj e hm))
theorem CJ {d ρ : Type} {m : Option d} {k : d → Option ρ} {r : ρ} {x : Code} {K : (Nat → Value) → World → Prop} (hm : m.bind k = some r) (I : d → (Nat → Value) → World → Prop) (h1 : ∀ s, m = some s → CW P n x (kc (I s) Q) E W) (g : ∀ s E W, I s E W → k s = some r → K E W) : CW P n x (kc K Q) E W :=
  let ⟨s, a, b⟩ := bind_some hm
  G6 (I s) (h1 s a) (fun E W h => g s E W h b)
theorem MA {g ρ d : Type} {m : Option (d ⊕ g)} {k : d ⊕ g → Option ρ} {r : ρ} {x : Code} {K : (Nat → Value) → World → Prop} (hm : m.bind k = some r) (I : g → (Nat → Value) → World → Prop) (h1 : ∀ s, m = some s → k s = some r → CW P n x (kc (fun E W => ∃ t, s = .inr t ∧ I t E W) Q) E W) (i : ∀ s E W, I s E W → k (.inr s) = some r → K E W) : CW P n x (kc K Q) E W :=
  let ⟨s, a, b⟩ := bind_some hm
  G6 (fun E W => ∃ t, s = .inr t ∧ I t E W) (h1 s a b) (fun E W ⟨t, e, h⟩ => i t E W h (by subst e; exact b))
theorem LJ {d ρ : Type} {m : Option d} {k : d → Option ρ} {r : ρ} {ops : Array Oper} {rest : List Oper} (hm : m.bind k = some r) (I : d → (Nat → Value) → World → Prop) (j : Nat) (g : ∀ s E W, I s E W → k s = some r → LW P n ops Q (rest.drop j) E W) (h1 : ∀ s, m = some s → (∀ E W, I s E W → LW P n ops Q (rest.drop j) E W) → LW P n ops Q rest E W) : LW P n ops Q rest E W :=
  let ⟨s, a, b⟩ := bind_some hm
  h1 s a (fun E W h => g s E W h b)
theorem PJ {d ρ : Type} {m : Option d} {k : d → Option ρ} {r : ρ} {ops : Array Oper} {S : Array Bool → World → Prop} {fuel : Nat} {listed : Array Bool} (hm : m.bind k = some r) (I : d → (Nat → Value) → World → Prop) (i : Array Bool) (g : Nat) (j : ∀ s E W, I s E W → k s = some r → PX P n ops Q S g i E W) (h1 : ∀ s, m = some s → (∀ E W, I s E W → PX P n ops Q S g i E W) → PX P n ops Q S fuel listed E W) : PX P n ops Q S fuel listed E W :=
  let ⟨s, a, b⟩ := bind_some hm
  h1 s a (fun E W h => j s E W h b)
end
section
variable {dd : Bool} {P : Program} {fn : Func} {E : Nat → Value} {W w : World} {μ : bW} {L : List (Nat × Obj)}
theorem rP {t : Tmp} {v : Value} (a : ST dd cA w W μ L) (b : fn.results = #[.tmp t] := by exact rfl) (d : E t = v := by exact rfl) : ru P fn (fun e W' => e = .returned v ∧ Ex dd w W') .ret E W := dH b d ⟨rfl, a.ex⟩
end
theorem ST.xY {dd : Bool} {F : Nat → Prop} {w W : World} {μ : bW} {x : Nat × Obj} {L : List (Nat × Obj)} (h : ST dd F w W μ (x :: L)) : ST dd F w W μ ([x] ++ L) := h
theorem ST.I5 {dd : Bool} {F : Nat → Prop} {w W : World} {μ : bW} {L : List (Nat × Obj)} (h : ST dd F w W μ L) : ST dd F w W μ ([] ++ L) := h
theorem aL {E : Nat → Value} {ax : Array Operand} {l : List Value} (h : ax.toList.map (aS E) = l) : ax.map (aS E) ++ (#[] : Array Value) = l.toArray := by subst h; apply Array.ext'; simp
section
variable {dd : Bool}
variable {P : Program} {E : Nat → Value} {W : World} {d : Option Nat} {ty : TypeId} {pos : String} {af : Array Edge} {g : Option (Nat × Bool)}
  {F : Nat → Prop} {w : World} {μ : bW} {L : List (Nat × Obj)}
variable {f : FuncId} {fv : Operand} {ax : Array Operand} {ats : Array TypeId} {args : List Value} {v : Value} {K : Value → World → Prop}
theorem Eg (a : ST dd F w W μ L) (he : ∀ args w, (callFunc f args).run P w = .ok (.enter f args) w) (b : bF dd P f args W v) (h : ∀ W', ST dd F w W' μ L → K v W') (i : aS E fv = .func (.func f) #[] #[] := by exact rfl) (ha : ax.toList.map (aS E) = args := by exact rfl) : fT P E ⟨d, .call ⟨.value fv, ax, ats⟩, ty, pos, af, g⟩ W K := zy a i he (aL ha) b h
theorem jg {α : Type} {e : TypeId} {enc : α → List Value} {k : Nat} {l : List α} {Y : List (Nat × Obj)} (a : ST dd F w W μ Y) (he : ∀ args w, (callFunc f args).run P w = .ok (.enter f args) w) (b : dP dd P f args W e enc k l) (h : ∀ W' v μ' R, ST dd F w W' μ' (R ++ Y) → bO μ μ' → Lo F w μ μ' → bG e enc k v l R → K v W') (i : aS E fv = .func (.func f) #[] #[] := by exact rfl) (ha : ax.toList.map (aS E) = args := by exact rfl) : fT P E ⟨d, .call ⟨.value fv, ax, ats⟩, ty, pos, af, g⟩ W K := GW _ a i he (aL ha) b h
theorem tY {K' : Value → List (Nat × Obj) → World → Prop} {L0 L2 : List (Nat × Obj)} (i : ST dd F w W μ L) (j : L.Perm (L0 ++ L2)) (he : ∀ args w, (callFunc f args).run P w = .ok (.enter f args) w) (k : yT L0 W → (L0.map (·.1)).Nodup → bO μ (nP W L0) → (∀ b o, (b, o) ∈ L2 → nP W L0 b = some o) → dV dd P f args W L0 K') (h : ∀ W' v μ' L1, ST dd F w W' μ' (L1 ++ L2) → bO μ μ' → Lo F w μ μ' → (∀ b, W.heap.size ≤ b → ∀ o, nP W' L1 b = some o → μ' b = some o) → K' v L1 W' → K v W') (l : aS E fv = .func (.func f) #[] #[] := by exact rfl) (ha : ax.toList.map (aS E) = args := by exact rfl) : fT P E ⟨d, .call ⟨.value fv, ax, ats⟩, ty, pos, af, g⟩ W K :=
  Kp L0 L2 i j l he (aL ha) (fun a b c d => by have := k a b c d; simpa using this) h
theorem Fo {K' : Value → List (Nat × Obj) → bW → Prop} {L0 L2 : List (Nat × Obj)} (i : ST dd F w W μ L) (j : L.Perm (L0 ++ L2)) (he : ∀ args w, (callFunc f args).run P w = .ok (.enter f args) w) (k : yT L0 W → (L0.map (·.1)).Nodup → bO μ (nP W L0) → (∀ b o, (b, o) ∈ L2 → nP W L0 b = some o) → dR dd P f args W μ L0 K') (h : ∀ W' v μ' L1, ST dd F w W' μ' (L1 ++ L2) → bO μ μ' → Lo F w μ μ' → K' v L1 μ' → K v W') (l : aS E fv = .func (.func f) #[] #[] := by exact rfl) (ha : ax.toList.map (aS E) = args := by exact rfl) : fT P E ⟨d, .call ⟨.value fv, ax, ats⟩, ty, pos, af, g⟩ W K :=
  AR L0 L2 i j l he (aL ha) (fun a b c d => by have := k a b c d; simpa using this) h
end
section
variable {E : Nat → Value} {x1 x2 x3 x4 x5 x6 x7 x8 : Operand} {v1 v2 v3 v4 v5 v6 v7 v8 : Value}
theorem MD (h1 : aS E x1 = v1) : [x1].map (aS E) = [v1] := by rw [← h1]; rfl
theorem Nk (h1 : aS E x1 = v1) (a : aS E x2 = v2) : [x1, x2].map (aS E) = [v1, v2] := by rw [← h1, ← a]; rfl
end
theorem MC {i j : Int} {E : Nat → Value} {x : Operand} {k : IntKind} (h : (i == j) = true) (a : aS E x = .int k i) : aS E x = .int k j := by rw [a, eq_of_beq h]
end Go.Proofs.YtmlncblocfcmiaaGreat
namespace Go.Proofs.YtmlncblocfcmiaaGreat
open Go.RowKit
def Jd (R : List (Nat × Obj)) (k : Nat) (p : Value) (i a : Nat) : Prop := ∃ g o, R = [(g, o)] ∧ p = .pointer (some ⟨g, i * k + a, none⟩)
theorem uu.f {R : List (Nat × Obj)} {k : Nat} {p : Value} {i : Nat} (h : uu R k p i) : Jd R k p i 0 := h
section
variable {P : Program} {E : Nat → Value} {W : World} {d : Option Nat} {ty : TypeId} {pos : String} {af : Array Edge} {g : Option (Nat × Bool)}
  {dd : Bool} {F : Nat → Prop} {w : World} {μ : bW} {L : List (Nat × Obj)} {α : Type} {e' : TypeId} {enc : α → List Value} {k : Nat} {v : Value} {l : List α} {R : List (Nat × Obj)}
theorem Dj {m : bW} {t : TypeId} {x : Operand} {f off i a : Nat} {p : Value} {ys : List Value} (zs : List Value) (s : dY P t f off) (w : aS E x = p) (v : At m p ys) (hp : Jd R k p i a) (z : (ys.drop off).take zs.length = zs) :
    ∃ l, (At m l zs ∧ Jd R k l i (a + off)) ∧ ∀ W, et P E ⟨d, .fieldAddr t x f, ty, pos, af, g⟩ W l W := by
  obtain ⟨n, A, rfl, rfl⟩ := hp
  obtain ⟨b, o, cs, T, fr, q, h1, r⟩ := v
  cases q
  refine ⟨_, ⟨⟨n, (i * k + a) + off, cs, T, fr, rfl, h1, fun j y h => ?_⟩, ⟨n, A, rfl, by rw [Nat.add_assoc]⟩⟩, fun W => aO s w⟩
  have u : j < zs.length := (List.getElem?_eq_some_iff.1 h).1
  have := r (off + j) y (by
    rw [← z, List.getElem?_take_of_lt u, List.getElem?_drop] at h
    exact h)
  rw [Nat.add_assoc]
  exact this
theorem bG.put (h : bG e' enc k v l R) (hk : ∀ x, (enc x).length = k) {p : Value} {i : Nat} (hp : uu R k p i) {x0 : α} (s : l[i]? = some x0) (x1 : α) :
    ∃ g cur, R = [(g, .cells cur e' (0, 0))] ∧ p = .pointer (some ⟨g, i * k, none⟩) ∧ i * k + k ≤ cur.size ∧ (∀ j y, (enc x0)[j]? = some y → cur[i * k + j]? = some y) ∧
      bG e' enc k v (l.set i x1) [(g, .cells (cur.toList.take (i * k) ++ enc x1 ++ cur.toList.drop (i * k + k)).toArray e' (0, 0))] := by
  have m : i < l.length := (List.getElem?_eq_some_iff.1 s).1
  obtain ⟨q, cur, cap, rfl, rfl, r, w, d, z, rfl, A⟩ := vc h hk hp s
  have hle : i * k + k ≤ cap * k := by
    have : (i + 1) * k ≤ cap * k := Nat.mul_le_mul_right _ (by omega)
    rwa [Nat.add_mul, Nat.one_mul] at this
  have a : i * k + k ≤ l.length * k := by
    have : (i + 1) * k ≤ l.length * k := Nat.mul_le_mul_right _ (by omega)
    rwa [Nat.add_mul, Nat.one_mul] at this
  have hlen : l.length * k ≤ cap * k := Nat.mul_le_mul_right _ r
  refine ⟨q, cur, rfl, rfl, by rw [d]; exact hle, A, .inr ⟨q, cap, _, by simp, rfl, by simpa using r, w, ?_, ?_⟩⟩
  · show ((cur.toList.take (i * k) ++ (enc x1) ++ cur.toList.drop (i * k + k)).toArray).size = _
    have b : cur.toList.length = cap * k := by simpa using d
    rw [List.size_toArray, List.length_append, List.length_append, List.length_take, List.length_drop, hk, b, Nat.min_eq_left (by omega)]; omega
  · rw [List.length_set, As hk l i x1 m, ← z]
    have t : (cur.toList.take (l.length * k)).take (i * k) = cur.toList.take (i * k) := by rw [List.take_take]; congr 1; omega
    have u : (cur.toList.take (l.length * k)).drop (i * k + k) = (cur.toList.drop (i * k + k)).take (l.length * k - (i * k + k)) := by rw [List.drop_take]
    rw [t, u]
    show List.take (l.length * k) (cur.toList.take (i * k) ++ enc x1 ++ cur.toList.drop (i * k + k)) = _
    have b : cur.toList.length = cap * k := by simpa using d
    have n : (cur.toList.take (i * k) ++ enc x1).length = i * k + k := by rw [List.length_append, List.length_take, hk, b, Nat.min_eq_left (by omega)]
    rw [List.take_append, List.take_of_length_le (by rw [n]; exact a), n]
theorem IV {ys us cur : List Value} {a k b : Nat} (l : ys.length = k) (h : ∀ j y, ys[j]? = some y → cur[a + j]? = some y) (g : b + us.length ≤ k) (m : a + k ≤ cur.length) :
    cur.take (a + b) ++ us ++ cur.drop (a + b + us.length) = cur.take a ++ (ys.take b ++ us ++ ys.drop (b + us.length)) ++ cur.drop (a + k) := by
  have e : cur = cur.take a ++ ys ++ cur.drop (a + k) := by
    have h1 : (cur.drop a).take k = ys := by
      refine List.ext_getElem? fun j => ?_
      by_cases i : j < k
      · rw [List.getElem?_take_of_lt i, List.getElem?_drop, List.getElem?_eq_getElem (by omega : j < ys.length)]
        exact h j _ (List.getElem?_eq_getElem (by omega))
      · rw [List.getElem?_eq_none (by simp; omega), List.getElem?_eq_none (by omega)]
    rw [← h1, List.append_assoc, ← List.drop_drop, List.take_append_drop, List.take_append_drop]
  have d : (cur.take a).length = a := by rw [List.length_take]; omega
  generalize cur.take a = A at e d
  generalize cur.drop (a + k) = D at e
  subst e
  subst d l
  rw [List.append_assoc A ys D, List.take_length_add_append, Nat.add_assoc, List.drop_length_add_append, List.take_append_of_le_length (by omega), List.drop_append_of_le_length g]
  simp
theorem zc {β : Type} {Rl : jq β} {l : List β} {B : List (Nat × Obj)} {K : Value → World → Prop} {Y : List (Nat × Obj)} {t : TypeId} {x y : Operand} {Q p u : Value} {i m : Nat} {x0 x1 : β} {ys : List Value} (us : List Value) (O : Deep Rl k) (q : ST dd F w W μ (B ++ Y)) (h : cL e' Rl k μ v l B) (hx : aS E x = p) (I : aS E y = u) (hA : At (uj B) Q ys) (hlen : ys.length = k) (hp : uu B k Q i) (hf : Jd B k p i m) (hl : l[i]? = some x0) (hu : u.cells.toList = us) (G : Rl μ (ys.take m ++ us ++ ys.drop (m + us.length)) x1) (hS : ∀ w, (sizeOf t).run P w = .ok us.length w) (hb : m + us.length ≤ k) (hK : ∀ W' R', ST dd F w W' μ (R' ++ Y) → cL e' Rl k μ v (l.set i x1) R' → K undef W') : fT P E ⟨d, .store t x y, ty, pos, af, g⟩ W K := by
  obtain ⟨cl, h1, M⟩ := h
  obtain ⟨c, hc, _⟩ := M.get hl
  obtain ⟨L, cur, rfl, rfl, q1, _, q2⟩ := bG.put h1 rW hp hc (O.cell G)
  obtain ⟨_, _, R, rfl⟩ := hf
  cases R
  obtain ⟨b, o, cs, T, fr, U, J, a2⟩ := hA
  cases U
  have Z : cs = cur := by
    simp only [uj, List.find?_cons_of_pos, beq_self_eq_true, Option.map_some, Option.some.injEq, Obj.cells.injEq] at J
    exact J.1.symm
  subst Z
  have s := (q.box L (.cells cs e' (0, 0)) (by simp)).1
  have n : u.cells.size = us.length := by rw [← hu]; simp
  have D := IV (us := us) (cur := cs.toList) (a := i * k) hlen (fun j y I => by simpa using a2 j y I) hb (by simpa using q1)
  refine .inr (.inl ⟨W.setRow L (cs.toList.take (i * k) ++ (ys.take m ++ us ++ ys.drop (m + us.length)) ++ cs.toList.drop (i * k + k)).toArray, ?_, hK _ _ (ST.store (A := []) q _) ⟨_, q2, M.set G i⟩⟩)
  show (do Instr.storeAt t (aS E x) (aS E y); pure .skip : Sem Next).run P W = _
  rw [hx, I]
  have r : ∀ z ∈ us, z.oneCell' = true := fun z hz => O.one G z (by simp [hz])
  have := sQ P (off := i * k + m) u (by rw [n]; exact hS) (by rw [hu]; exact r) s (by rw [n]; omega)
  simp only [Sem.run_bind, this, Result.andThen_ok, Sem.run_pure, n]
  rw [hu, D]
end
end Go.Proofs.YtmlncblocfcmiaaGreat
namespace Go.Proofs.YtmlncblocfcmiaaGreat
open Go.RowKit
theorem oc {v : Value} (h : v.cells.toList.all Value.oneCell' = true := by exact rfl) : ∀ u ∈ v.cells.toList, u.oneCell' = true := List.all_eq_true.1 h
theorem dc {p : Prop} [Decidable p] (h : p := by decide) : p := h
theorem kr {p : Prop} (h : p := by kernel_rfl) : p := h
theorem br {α : Sort _} {a b : α} (h : a = b := by rfl) : a = b := h
abbrev LO := List (Nat × Obj)
abbrev Ob (c : Array Value) (t : TypeId) : Obj := .cells c t (0, 0)
abbrev Ol (c : List Value) (t : TypeId) : Obj := .cells c.toArray t (0, 0)
theorem ew {P : Program} {t e : TypeId} {m k : Nat} {z : Value} {a : Array (Nat × Value)} {cs : Array Value} (j : P.underlying t = some (.slice e)) (i : ∀ w, (sizeOf e).run P w = .ok k w) (n : ∀ w, (zeroValue e).run P w = .ok z w) (hm : m * k ≤ 16777216 := by decide) (g : a.toList = (a.toList.map (·.2)).zipIdx.map (fun p => (p.2, p.1)) := by exact rfl) (l : (a.toList.map (·.2)).all (fun v => v.cells.size == k) = true := by exact rfl) (d : (a.toList.map (·.2)).length = m := by exact rfl) (b : ((a.toList.map (·.2)).flatMap (fun v => v.cells.toList)).toArray = cs := by exact rfl) (W : World) :
    (Instr.buildSlice t m a).run P W = .ok (.slice (some ⟨W.heap.size, 0, none⟩) m m) (W.alloc (.cells cs e (0, 0))) :=
  th _ j i n hm g (fun v h => eq_of_beq (List.all_eq_true.1 l v h)) d b W
section
variable {dd : Bool} {P : Program} {fn : Func} {E : Nat → Value} {W w : World} {μ : bW} {L L0 : List (Nat × Obj)}
theorem rQ {α : Type} {f : α → Value} {a r : α} {t : Tmp} (hm : some a = some r) (b : ST dd cA w W μ L) (d : fn.results = #[.tmp t] := by exact rfl) (g : E t = f a := by exact rfl) : ru P fn (fun e W' => e = .returned (f r) ∧ Ex dd w W') .ret E W := by
  obtain rfl := sj hm; exact dH d g ⟨rfl, b.ex⟩
theorem cG (n : Nat) {f : FuncId} {c : Code} {args : List Value} {v : Value} (a : P.funcs[f]? = some fn) (b : fn.body = some c) (h : ST dd cA w w (hp w) [] → CW P n c (ru P fn (fun e i => e = .returned v ∧ Ex dd w i)) (xe args) w) (g : fn.ntmps = n := by exact rfl) (d : args.length ≤ n := by exact nb) : bF dd P f args w v := tK a b g d (h (ST.start w))
theorem ng {K : Value → List (Nat × Obj) → World → Prop} (n : Nat) {f : FuncId} {c : Code} {args : List Value} (a : P.funcs[f]? = some fn) (d : fn.body = some c) (h : ST dd cA w w (hp w) [] → CW P n c (ru P fn (fun e b => ∃ v L1, e = .returned v ∧ ny dd [] L1 w b ∧ K v L1 b)) (xe args) w) (i : fn.ntmps = n := by exact rfl) (g : args.length ≤ n := by exact nb) : dV dd P f args w [] K := tK a d i g (h (ST.start w))
theorem uY {K : Value → List (Nat × Obj) → World → Prop} (d : gj μ L0 w) (n : Nat) {f : FuncId} {c : Code} {args : List Value} (a : P.funcs[f]? = some fn) (g : fn.body = some c) (h : ST dd (keys L0) w w μ L0 → CW P n c (ru P fn (fun e b => ∃ v L1, e = .returned v ∧ ny dd L0 L1 w b ∧ K v L1 b)) (xe args) w) (j : fn.ntmps = n := by exact rfl) (i : args.length ≤ n := by exact nb) : dV dd P f args w L0 K := tK a g j i (h (ST.HO d))
theorem nm {K : Value → List (Nat × Obj) → bW → Prop} (d : gj μ L0 w) (n : Nat) {f : FuncId} {c : Code} {args : List Value} (a : P.funcs[f]? = some fn) (g : fn.body = some c) (h : ST dd (keys L0) w w μ L0 → CW P n c (ru P fn (fun e b => ∃ v L1 μ1, e = .returned v ∧ ny dd L0 L1 w b ∧ bO μ μ1 ∧ Lo (keys L0) w μ μ1 ∧ bO μ1 (nP b L1) ∧ K v L1 μ1)) (xe args) w) (j : fn.ntmps = n := by exact rfl) (i : args.length ≤ n := by exact nb) : dR dd P f args w μ L0 K := tK a g j i (h (ST.HO d))
end
section
variable {dd : Bool}
variable {P : Program} {E : Nat → Value} {W : World} {d : Option Nat} {ty : TypeId} {pos : String} {af : Array Edge} {g : Option (Nat × Bool)}
  {F : Nat → Prop} {w : World} {μ : bW} {L : List (Nat × Obj)}
variable {f : FuncId} {fv : Operand} {ax : Array Operand} {ats : Array TypeId} {args : List Value} {v : Value} {K : Value → World → Prop}
theorem eM {K' : Value → List (Nat × Obj) → World → Prop} {L0 L2 : List (Nat × Obj)} (i : ST dd F w W μ L) (j : L.Perm (L0 ++ L2)) (he : ∀ args w, (callFunc f args).run P w = .ok (.enter f args) w) (k : gj (nP W L0) L0 W → bO μ (nP W L0) → dV dd P f args W L0 K') (h : ∀ W' v μ' L1, ST dd F w W' μ' (L1 ++ L2) → bO μ μ' → Lo F w μ μ' → (∀ b, W.heap.size ≤ b → ∀ o, nP W' L1 b = some o → μ' b = some o) → K' v L1 W' → K v W') (l : aS E fv = .func (.func f) #[] #[] := by exact rfl) (ha : ax.toList.map (aS E) = args := by exact rfl) : fT P E ⟨d, .call ⟨.value fv, ax, ats⟩, ty, pos, af, g⟩ W K :=
  tY i j he (fun a b c _ => k ⟨a, b, bO.refl _⟩ c) h l ha
theorem eD {K' : Value → List (Nat × Obj) → bW → Prop} {L0 L2 : List (Nat × Obj)} (i : ST dd F w W μ L) (j : L.Perm (L0 ++ L2)) (he : ∀ args w, (callFunc f args).run P w = .ok (.enter f args) w) (k : gj μ L0 W → dR dd P f args W μ L0 K') (h : ∀ W' v μ' L1, ST dd F w W' μ' (L1 ++ L2) → bO μ μ' → Lo F w μ μ' → K' v L1 μ' → K v W') (l : aS E fv = .func (.func f) #[] #[] := by exact rfl) (ha : ax.toList.map (aS E) = args := by exact rfl) : fT P E ⟨d, .call ⟨.value fv, ax, ats⟩, ty, pos, af, g⟩ W K :=
  Fo i j he (fun a b c _ => k ⟨a, b, c⟩) h l ha
end
def G9 (op : BinOp) : Value → Value → Option Value
  | .int k a, .int k' b => if k = k' then DN k op a b else none
  | _, _ => none
def Lm (i : Nat) : Value → Option Value
  | .tuple vs => vs[i]?
  | _ => none
def DH : Value → Bool
  | .pointer (some ⟨_, _, none⟩) => true
  | _ => false
def KY (o : Nat) : Value → Value
  | .pointer (some ⟨b, k, none⟩) => .pointer (some ⟨b, k + o, none⟩)
  | v => v
theorem CM {v : Value} (h : DH v = true) : ∃ b k, v = .pointer (some ⟨b, k, none⟩) := by
  unfold DH at h; split at h
  · exact ⟨_, _, rfl⟩
  · cases h
section
variable {P : Program} {n : Nat} {Q : ko} {E : Nat → Value} {W : World} {ops : Array Oper} {rest : List Oper}
  {d j t : Nat} {want b : Bool} {v : Value} {ins : Go.Op} {ty : TypeId} {pos : String} {af : Array Edge} {A : Value → Prop} {x y : Operand}
theorem Wm (h : LW P n ops Q rest (gB E d (aS E x)) W) (a : d < n := by decide) : LW P n ops Q (⟨some d, .move x, ty, pos, af, none⟩ :: rest) E W := V (aQ rfl) h a
theorem Wa (h : LW P n ops Q rest (gB E d (aS E x)) W) (a : d < n := by decide) : LW P n ops Q (⟨some d, .assign x, ty, pos, af, none⟩ :: rest) E W := V (fW rfl) h a
theorem Wh (b : aS E x = v) (h : LW P n ops Q rest (gB E d v) W) (a : d < n := by decide) : LW P n ops Q (⟨some d, .move x, ty, pos, af, none⟩ :: rest) E W := V (aQ b) h a
theorem Wg (b : aS E x = v) (h : LW P n ops Q rest (gB E d v) W) (a : d < n := by decide) : LW P n ops Q (⟨some d, .assign x, ty, pos, af, none⟩ :: rest) E W := V (fW b) h a
theorem Wx {i : Nat} (a : Lm i (aS E x) = some v) (h : LW P n ops Q rest (gB E d v) W) (b : d < n := by decide) : LW P n ops Q (⟨some d, .extract x i, ty, pos, af, none⟩ :: rest) E W := by
  unfold Lm at a; split at a
  · rename_i vs e; exact V (yu e a) h b
  · cases a
theorem Wi {op : BinOp} {p m : TypeId} (g : G9 op (aS E x) (aS E y) = some v) (h : LW P n ops Q rest (gB E d v) W) (l : d < n := by decide) : LW P n ops Q (⟨some d, .binOp op p x y m, ty, pos, af, none⟩ :: rest) E W := by
  unfold G9 at g; split at g
  · rename_i k a k' b i j
    split at g
    · rename_i e; subst e; exact V (cF i j g) h l
    · cases g
  · cases g
theorem Wf {t : TypeId} {f off : Nat} (a : dY P t f off) (h : LW P n ops Q rest (gB E d (KY off (aS E x))) W) (hp : DH (aS E x) = true := by exact rfl) (g : d < n := by decide) : LW P n ops Q (⟨some d, .fieldAddr t x f, ty, pos, af, none⟩ :: rest) E W := by
  obtain ⟨b, k, e⟩ := CM hp
  refine V (aO a e) ?_ g
  rw [e] at h; exact h
theorem Wn (h : LW P n ops Q rest (gB E d (aS E x)) W) (hp : DH (aS E x) = true := by exact rfl) (a : d < n := by decide) : LW P n ops Q (⟨some d, .nilCheck x, ty, pos, af, none⟩ :: rest) E W := by
  obtain ⟨b, k, e⟩ := CM hp
  refine V (fG e) ?_ a
  rw [e] at h; exact h
theorem un (h : b = !want) (k : LW P n ops Q rest (gB E d undef) W) (g : (ops[j]?).bind (·.dst) = some t := by exact rfl) (a : E t = .bool b := by exact rfl) (l : t < n := by decide) (i : d < n := by decide) :
    LW P n ops Q (⟨some d, ins, ty, pos, af, some (j, want)⟩ :: rest) E W := Vn g (by rw [a, h]) k l i
theorem ug (h : b = want) (l : et P E ⟨some d, ins, ty, pos, af, some (j, want)⟩ W v W) (k : LW P n ops Q rest (gB E d v) W) (g : (ops[j]?).bind (·.dst) = some t := by exact rfl) (a : E t = .bool b := by exact rfl) (m : t < n := by decide) (i : d < n := by decide) :
    LW P n ops Q (⟨some d, ins, ty, pos, af, some (j, want)⟩ :: rest) E W := Vg g (by rw [a, h]) l k m i
theorem kf (h : b = want) (k : fT P E ⟨some d, ins, ty, pos, af, some (j, want)⟩ W fun v W' => LW P n ops Q rest (gB E d v) W') (g : (ops[j]?).bind (·.dst) = some t := by exact rfl) (a : E t = .bool b := by exact rfl) (l : t < n := by decide) (i : d < n := by decide) :
    LW P n ops Q (⟨some d, ins, ty, pos, af, some (j, want)⟩ :: rest) E W := HG g (by rw [a, h]) k l i
theorem No (h : b = want) (l : ∃ p, A p ∧ ∀ W, et P E ⟨some d, ins, ty, pos, af, some (j, want)⟩ W p W) (k : ∀ p, A p → LW P n ops Q rest (gB E d p) W) (g : (ops[j]?).bind (·.dst) = some t := by exact rfl) (a : E t = .bool b := by exact rfl) (m : t < n := by decide) (i : d < n := by decide) :
    LW P n ops Q (⟨some d, ins, ty, pos, af, some (j, want)⟩ :: rest) E W := M7 g (by rw [a, h]) l k m i
section
variable {dd : Bool} {F : Nat → Prop} {w : World} {μ : bW} {L : List (Nat × Obj)} {T : TypeId} {a off : Nat} {cs : Array Value} {fr : Nat × Nat}
theorem VA {t : TypeId} (b : ST dd F w W μ L) (i : (a, Obj.cells cs T fr) ∈ L) (ys : List Value) (g : ∀ w, (isAgg t).run P w = .ok true w) (j : ∀ w, (sizeOf t).run P w = .ok ys.length w) (h : LW P n ops Q rest (gB E d (.agg ys.toArray)) W) (l : aS E x = .pointer (some ⟨a, off, none⟩) := by exact rfl) (m : (cs.toList.drop off).take ys.length = ys := by exact rfl) (k : d < n := by decide) : LW P n ops Q (⟨some d, .load t x, ty, pos, af, none⟩ :: rest) E W := V (aH l (aK b.has i ys m g j)) h k
theorem VB {t : TypeId} (b : ST dd F w W μ L) (i : (a, Obj.cells cs T fr) ∈ L) (k : aS E x = .pointer (some ⟨a, off, none⟩)) (l : cs[off]? = some v) (g : ∀ w, (isAgg t).run P w = .ok false w) (h : LW P n ops Q rest (gB E d v) W) (j : d < n := by decide) : LW P n ops Q (⟨some d, .load t x, ty, pos, af, none⟩ :: rest) E W := V (aH k (bA b.has i l g)) h j
end
section
variable {K : (Nat → Value) → World → Prop} {Q' : ko} {c : Code} {id id2 : Nat} {l : List Oper} {z : Code}
theorem sg (h : LW P n l.toArray (kc (fun E W => CW P n c Q E W) Q) l E W) : CW P n (.seq (.region id l.toArray false) c) Q E W := aW (aU h)
theorem ln (h : K E W) : LW P n ops (kc K Q) [] E W := bK (aR h)
theorem lr (h : LW P n l.toArray (kc (fun E W => CW P n c Q E W) Q) l E W) : LW P n ops (kc (fun E W => CW P n (.seq (.region id l.toArray false) c) Q E W) Q') [] E W := bK (aR (aW (aU h)))
theorem lS (h : LW P n l.toArray (kc (fun E W => CW P n c (kc (fun E W => CW P n z Q E W) Q) E W) (kc (fun E W => CW P n z Q E W) Q)) l E W) : LW P n ops (kc (fun E W => CW P n (.seq (.seq (.region id l.toArray false) c) z) Q E W) Q') [] E W := bK (aR (aW (aW (aU h))))
theorem bg (h : LW P n l.toArray (kc (fun E W => CW P n c (pS id2 Q) E W) (pS id2 Q)) l E W) : CW P n (.block id2 (.seq (.region id l.toArray false) c)) Q E W := dN (aW (aU h))
theorem kg (h : LW P n l.toArray (kc (fun E W => CW P n c Q E W) Q) l E W) : CW P n .skip (kc (fun E W => CW P n (.seq (.region id l.toArray false) c) Q E W) Q') E W := cZ (aR (aW (aU h)))
theorem kS (h : LW P n l.toArray (kc (fun E W => CW P n c (kc (fun E W => CW P n z Q E W) Q) E W) (kc (fun E W => CW P n z Q E W) Q)) l E W) : CW P n .skip (kc (fun E W => CW P n (.seq (.seq (.region id l.toArray false) c) z) Q E W) Q') E W := cZ (aR (aW (aW (aU h))))
theorem lt (h : Q .ret E W) : LW P n ops (kc (fun E W => CW P n .ret Q E W) Q') [] E W := bK (aR (bH h))
theorem kn (h : K E W) : CW P n .skip (kc K Q) E W := cZ (aR h)
end
end
end Go.Proofs.YtmlncblocfcmiaaGreat
namespace Go.Proofs.YtmlncblocfcmiaaGreat
open Go.Sort Go.Proofs Go.Shelf
theorem AD {g b : Nat} {o : Obj} : keys [(g, o)] b ↔ b = g := by
  constructor
  · rintro ⟨a, h⟩
    simp at h
    exact h.1
  · rintro rfl; exact ⟨o, by simp⟩
theorem wx (w : World) (g m : Nat) (f : Array Value → Array Value) (os : Array Obj) (b : Nat) (d : b < w.heap.size) :
    (Go.Sort.grow (mapBlock (Go.Sort.ahead w m) g f) os).heap[b]? = if g = b then w.heap[b]?.map (onCells f) else w.heap[b]? := by
  have a : b < (mapBlock (Go.Sort.ahead w m) g f).heap.size := by simp only [mapBlock, Go.Sort.ahead, Array.size_modify]; exact d
  rw [heap_grow_old _ _ a]
  simp only [mapBlock, Go.Sort.ahead, Array.getElem?_modify]
theorem Fm {w : World} {g m : Nat} {f : Array Value → Array Value} {os : Array Obj} {cs : Array Value} {T : TypeId} {fr : Nat × Nat} (d : w.heap[g]? = some (.cells cs T fr)) :
    ny true [(g, .cells cs T fr)] [(g, .cells (f cs) T fr)] w (Go.Sort.grow (mapBlock (Go.Sort.ahead w m) g f) os) := by
  have a : g < w.heap.size := (Array.getElem?_eq_some_iff.1 d).1
  refine ⟨⟨rfl, rfl, rfl, ?_, ?_, fun b i j => ?_⟩, fun b o h => ?_, by simp⟩
  · refine nw.of ?_
    show w.drawn ≤ w.drawn + m
    omega
  · show w.heap.size ≤ (w.heap.modify g (onCells f) ++ os).size
    simp
  · rw [wx _ _ _ _ _ _ i, if_neg fun h => j (AD.2 h.symm)]
  · simp only [List.mem_cons, List.not_mem_nil, or_false, Prod.mk.injEq] at h
    obtain ⟨rfl, rfl⟩ := h
    refine ⟨?_, .inr (AD.2 rfl)⟩
    rw [wx _ _ _ _ _ _ a, if_pos rfl, d]
    rfl
theorem GD {w W : World} (h : Ex true w W) : ∃ q os, W = Go.Sort.grow (w.drewN q) os := by
  refine ⟨W.drawn - w.drawn, W.heap.extract w.heap.size W.heap.size, ?_⟩
  have g : W.heap = w.heap ++ W.heap.extract w.heap.size W.heap.size := by
    apply Array.ext_getElem?
    intro i
    rw [Array.getElem?_append]
    split
    · rename_i j; exact h.eP i j
    · rename_i j
      rw [Array.getElem?_extract]
      have l := h.size
      split
      · rw [show w.heap.size + (i - w.heap.size) = i by omega]
      · exact Array.getElem?_eq_none (by omega)
  obtain ⟨h1, m, n, p, r⟩ := W
  have a := h.os; have b := h.tape; have d := h.output; have k := h.drawn rfl
  simp only at a b d k g
  unfold Go.Sort.grow World.drewN
  simp only [World.mk.injEq]
  exact ⟨g, b, by omega, a, d⟩
theorem FF {α : Type} [Inhabited α] {enc : α → List Value} {k : Nat} (hk : ∀ x, (enc x).length = k) (l : List α) (j : Nat) (a : j < l.length * k) :
    (l.map enc).flatten[j]? = some ((flatK enc k l.toArray)[j]!) := by
  have g : 0 < k := by
    cases k with
    | zero => simp at a
    | succ n => omega
  have h1 : j / k < l.length := (Nat.div_lt_iff_lt_mul g).2 a
  rw [get_flatK _ _ _ _ (by simpa using a)]
  have h : l.toArray[j / k]! = l[j / k] := by
    rw [getElem!_pos l.toArray (j / k) (by simpa using h1)]; simp
  rw [h]
  have b : j % k < (enc l[j / k]).length := by rw [hk]; exact Nat.mod_lt _ g
  have d := qb hk l (j / k) l[j / k] (List.getElem?_eq_getElem h1) (j % k) ((enc l[j / k])[j % k]) (List.getElem?_eq_getElem b)
  rw [Nat.div_add_mod' j k] at d
  rw [d, getElem!_pos (enc l[j / k]) (j % k) b]
theorem DE {α : Type} [Inhabited α] {enc : α → List Value} {k : Nat} (hk : ∀ x, (enc x).length = k) {w : World} {g : Nat} {cs : Array Value} {T : TypeId} (b : w.heap[g]? = some (.cells cs T (0, 0))) (l : List α)
    (h : cs.toList.take (l.length * k) = (l.map enc).flatten) : HoldsK enc k w g 0 l.toArray := by
  intro j d
  have a : j < l.length * k := by simpa using d
  have h1 := FF hk l j a
  rw [← h, List.getElem?_take, if_pos a] at h1
  refine ⟨?_, ?_⟩
  · simp only [World.cell?, b, Nat.zero_add]
    simpa using h1
  · simp [World.frozen?, b]
theorem Fc {α : Type} [Inhabited α] {enc : α → List Value} {k : Nat} (hk : ∀ x, (enc x).length = k) {cs : Array Value} (l : List α) (b : l.length * k ≤ cs.size) :
    (putCells id 0 (flatK enc k l.toArray) cs).toList.take (l.length * k) = (l.map enc).flatten := by
  apply List.ext_getElem?
  intro j
  rw [List.getElem?_take]
  split
  · rename_i a
    rw [FF hk l j a]
    simp only [putCells, Array.getElem?_toList, Array.getElem?_mapIdx, size_flatK, List.size_toArray]
    rw [Array.getElem?_eq_getElem (by omega)]
    simp [a]
  · rename_i a
    rw [List.getElem?_eq_none (by rw [jt hk]; omega)]
theorem Dw (enc : Value → Value) (o : Nat) (d c : Array Value) : (putCells enc o d c).size = c.size := by simp [putCells]
section
variable {α : Type} {P : Program} {ρ : Ren}
theorem Lv {l : List α} {cf : α × α → Option Int} (h : yM cf l) : SWO (ltOf fun (x y : {x // x ∈ l}) => (cf (x.1, y.1)).getD 0) ∧
    (∀ x y : {x // x ∈ l}, ltOf (fun (x y : {x // x ∈ l}) => (cf (x.1, y.1)).getD 0) x y = nO cf x.1 y.1) := by
  have e : ∀ x y : {x // x ∈ l}, ltOf (fun (x y : {x // x ∈ l}) => (cf (x.1, y.1)).getD 0) x y = nO cf x.1 y.1 := fun x y => by
    obtain ⟨c, g⟩ := h.is x.1 x.2 y.1 y.2
    simp [ltOf, nO, g]
  refine ⟨⟨fun x => ?_, fun x y z => ?_, fun x y z => ?_⟩, e⟩
  · rw [e]; exact h.irrefl _ x.2
  · rw [e, e, e]; exact h.trans _ x.2 _ y.2 _ z.2
  · rw [e, e, e]
    intro h1 b
    cases a : nO cf x.1 z.1 with
    | false => rfl
    | true =>
      cases d : nO cf y.1 x.1 with
      | true =>
        have := h.trans _ y.2 _ x.2 _ z.2 d a
        rw [b] at this; cases this
      | false =>
        have := h.total _ x.2 _ y.2 h1 d
        rw [this, b] at a; cases a
theorem Fg (L : SlLaysF0.n6 P ρ) (k : Nat) (aE : ∀ w, (isAgg (ρ.t 24)).run P w = .ok true w) (zE : ∀ w, (Go.sizeOf (ρ.t 24)).run P w = .ok k w) {e : TypeId} (enc : α → List Value) (hk : ∀ x, (enc x).length = k) (h1 : ∀ x, ∀ u ∈ enc x, u.oneCell' = true) {v fv : Value} {l r : List α} {R : List (Nat × Obj)} {cf : α × α → Option Int} {w : World} {μ0 : bW} (hH : yT (R ++ []) w) (z : bO μ0 (nP w (R ++ []))) (T : bG e enc k v l R) (hc : MG P fv μ0 (fun (x : α × α) => [(.agg (enc x.1).toArray), (.agg (enc x.2).toArray)]) (fun (r : Int) => (.int .i64 r)) cf) (hm : tD cf l = some r) :
    dV true P (ρ.f 6) [v, fv] w (R ++ []) (fun u L1 _ => ∃ (S : List (Nat × Obj)), u = (.tuple #[]) ∧ L1 = (S ++ []) ∧ bG e enc k v r S) := by
  obtain ⟨ok, rfl⟩ := Bq hm
  rw [List.append_nil] at hH z ⊢
  rcases Nat.eq_zero_or_pos l.length with h0 | i
  · have hl : l = [] := List.eq_nil_of_length_eq_zero h0
    subst hl
    have U : ni cf ([] : List α) = [] := by simp [ni]
    rw [U]
    obtain ⟨p, c, rfl⟩ : ∃ p c, v = .slice p 0 c := by
      rcases T with ⟨rfl, _, _⟩ | ⟨g, cap, cur, rfl, _⟩
      · exact ⟨_, _, rfl⟩
      · exact ⟨_, _, rfl⟩
    refine Calls.mono (AnyF.slices_SortFunc_none L p c fv w) fun x w' ⟨hx, hw⟩ => ?_
    subst hx hw
    refine ⟨_, R, rfl, ⟨⟨rfl, rfl, rfl, nw.of (Nat.le_refl _), Nat.le_refl _, fun _ _ _ => rfl⟩, fun b o h => ⟨hH b o h, .inr ⟨o, h⟩⟩, ?_⟩, R, rfl, (List.append_nil R).symm, T⟩
    rcases T with ⟨_, _, rfl⟩ | ⟨g, cap, cur, _, rfl, _⟩ <;> simp
  · rcases T with ⟨_, rfl, _⟩ | ⟨g, cap, cur, rfl, rfl, a1, Z, G, aa⟩
    · simp at i
    have hg : w.heap[g]? = some (.cells cur e (0, 0)) := hH g _ (by simp)
    have a6 : g < w.heap.size := (Array.getElem?_eq_some_iff.1 hg).1
    haveI : Inhabited {x // x ∈ l} := ⟨⟨l[0], List.getElem_mem i⟩⟩
    obtain ⟨gg, caps, rfl, I, j⟩ := hc
    obtain ⟨hO, J⟩ := Lv ok
    have A : l.attach.toArray.size = l.length := by simp
    have a7 : l.attach.map (fun x => enc x.1) = l.map enc := by
      rw [show (fun x : {x // x ∈ l} => enc x.1) = enc ∘ Subtype.val from rfl, ← List.map_map, List.attach_map_subtype_val]
    have W : HoldsK (fun x : {x // x ∈ l} => enc x.1) k w g 0 l.attach.toArray := DE (fun x => hk x.1) hg l.attach (by rw [a7, List.length_attach, aa])
    have F : CmpLays P gg caps (fun x : {x // x ∈ l} => enc x.1) k (fun x y => (cf (x.1, y.1)).getD 0) g 0 l.attach.toArray.size w := by
      intro m os dk ad x y
      obtain ⟨c, E⟩ := ok.is x.1 x.2 y.1 y.2
      have Q : bO μ0 (hp (sortWorldK (fun x : {x // x ∈ l} => enc x.1) k w g 0 m dk os)) := fun b o hb => by
        have q := z b o hb
        unfold nP at q
        split at q
        · cases q
        · rename_i hn
          have Y : b < w.heap.size := (Array.getElem?_eq_some_iff.1 q).1
          show (Go.Sort.grow (mapBlock (Go.Sort.ahead w m) g _) os).heap[b]? = _
          rw [wx _ _ _ _ _ _ Y, if_neg fun h => hn (AD.2 h.symm)]
          exact q
      have h3 := j (sortWorldK (fun x : {x // x ∈ l} => enc x.1) k w g 0 m dk os) (x.1, y.1) c Q E
      have ea : ([Value.agg (enc x.1).toArray, Value.agg (enc y.1).toArray] ++ caps.toList).toArray = #[Value.agg (enc x.1).toArray, Value.agg (enc y.1).toArray] ++ caps := by
        apply Array.ext'; simp
      rw [← ea]
      exact Calls.mono h3 fun u W' hu => ⟨by rw [hu.1]; show _ = Ending.returned (.int .i64 ((cf (x.1, y.1)).getD 0)); rw [E]; rfl, GD hu.2⟩
    have hT : ∀ x y : {x // x ∈ l}, ltOf (fun (x y : {x // x ∈ l}) => (cf (x.1, y.1)).getD 0) x y = false → ltOf (fun (x y : {x // x ∈ l}) => (cf (x.1, y.1)).getD 0) y x = false → x = y := fun x y a b => by
      rw [J] at a b
      exact Subtype.ext (ok.total _ x.2 _ y.2 a b)
    have d := AnyQ.slices_SortFunc_total L k aE zE (fun x : {x // x ∈ l} => enc x.1) (fun x => hk x.1) (fun x => h1 x.1) (fun x y => (cf (x.1, y.1)).getD 0) hO gg caps g 0 cap l.attach.toArray w I F W a6 (by rw [A]; exact ok.short) hT
    rw [A] at d
    refine Calls.mono d fun u w' ⟨hu, n, os, hw⟩ => ?_
    subst hu
    generalize U : l.attach.toArray.toList.mergeSort (fun x y => !ltOf (fun (x y : {x // x ∈ l}) => (cf (x.1, y.1)).getD 0) y x) = s at hw
    have a8 : s.map Subtype.val = ni cf l := by
      rw [← U, List.map_mergeSort (s := fun x y => !nO cf y x) (fun a _ b _ => by rw [J])]
      simp [ni]
    have O : s.length = l.length := by rw [← U, List.length_mergeSort]; simp
    have M : (ni cf l).length = l.length := by simp [ni, List.length_mergeSort]
    have D := Fm (w := w) (m := n) (f := putCells id 0 (flatK (fun x : {x // x ∈ l} => enc x.1) k s.toArray)) (os := os) hg
    have ab : w' = Go.Sort.grow (mapBlock (Go.Sort.ahead w n) g (putCells id 0 (flatK (fun x : {x // x ∈ l} => enc x.1) k s.toArray))) os := hw
    rw [← ab] at D
    refine ⟨_, _, rfl, D, _, rfl, (List.append_nil _).symm, .inr ⟨g, cap, _, by rw [M], rfl, by omega, Z, by rw [Dw, G], ?_⟩⟩
    rw [M, ← O, Fc (fun x => hk x.1) s (by rw [O, G]; exact Nat.mul_le_mul_right k a1), ← a8, List.map_map]
    rfl
end
end Go.Proofs.YtmlncblocfcmiaaGreat
namespace Go.Proofs.YtmlncblocfcmiaaGreat
open Go.Sort Go.Proofs Go.Shelf
theorem zh (b : ByteArray) : b.toList = b.data.toList := by rw [ByteArray.toList_eq]
theorem KT (l : List ByteArray) : (l.map mJ).flatten = l.map Value.string := by
  induction l with
  | nil => rfl
  | cons x l ih => simp only [List.map_cons, List.flatten_cons, ih]; rfl
theorem IT (l : List ByteArray) : (oy l).map (fun b => b.data.toList) = (l.map (fun b => b.data.toList)).mergeSort (fun x y => decide (x ≤ y)) := by
  unfold oy
  refine List.map_mergeSort fun a _ b _ => ?_
  unfold jB
  rw [bytesLess_eq, zh, zh]
  by_cases h : a.data.toList ≤ b.data.toList
  · have d : ¬ b.data.toList < a.data.toList := List.not_lt.2 h
    simp [h, d]
  · have d : b.data.toList < a.data.toList := by
      cases Decidable.em (b.data.toList < a.data.toList) with
      | inl g => exact g
      | inr g => exact absurd (List.not_lt.1 g) h
    simp [h, d]
end Go.Proofs.YtmlncblocfcmiaaGreat
namespace Go.Proofs.YtmlncblocfcmiaaGreat
open Go.WideElems Go.WideShapes Go.Sort Go.Proofs Go.Shelf
theorem Fa {β : Type} {vf : β → Value} {P : Program} {kt : TypeId} (A : P.underlying kt = some .string) {l : List (ByteArray × β)} {es : Array MapEntry} {clock : Nat} (h : ob Value.string vf l es clock) (y : (l.map (·.1)).Nodup) (z : ∀ p ∈ l, p.1.size ≤ maxLen) (w : l.length ≤ maxLen) {W : World} {b : Nat} (u : W.heap[b]? = some (.map es clock)) : ∃ D : DataW Unit, W.ownsMap P kt (fun _ => some (.lit (.bool true), [])) b es.size D ∧ (strKeys D).Perm (l.map (fun p => p.1.data.toList)) ∧ Maps.size D = l.length := by
  have d := h.keys
  have n : ∀ x ∈ es.toList, ∃ s : ByteArray, x.key = .string s ∧ s.size ≤ maxLen := fun x j => by
    have h1 : x.key ∈ es.toList.map (·.key) := List.mem_map.2 ⟨x, j, rfl⟩
    rw [d] at h1
    obtain ⟨s, i, k⟩ := List.mem_map.1 h1
    obtain ⟨p, r, t⟩ := List.mem_map.1 i
    exact ⟨s, k.symm, by rw [← t]; exact z p r⟩
  have g : ∀ x ∈ es.toList, ∃ s : ByteArray, x.key = .string s ∧ Go.WideElems.rd (H := Unit) P kt (fun _ => some (.lit (.bool true), [])) x = some (.string s.data.toList, .lit (.bool true)) := fun x j => by
    obtain ⟨s, h1, i⟩ := n x j
    refine ⟨s, h1, ?_⟩
    simp [Go.WideElems.rd, keyOf, A, mapKey, h1, i]
  refine ⟨_, ⟨es, clock, u, ⟨by rw [h.length]; exact w, ⟨h.lt, ?_, ?_⟩, fun x j => ?_⟩, Nat.le_refl _, rfl⟩, ?_, ?_⟩
  · have := h.born
    rw [List.Nodup, List.pairwise_map]
    exact this.imp (fun {a b} h => by omega)
  · rw [d]
    rw [List.Nodup, List.pairwise_map]
    exact y.imp (fun {a b} m e => m (by injection e))
  · obtain ⟨s, _, i⟩ := g x j
    exact ⟨_, i⟩
  · have h1 := (sorted_perm (es.toList.map (Go.WideElems.rg (H := Unit) P kt (fun _ => some (.lit (.bool true), []))))).map (fun p => strOf p.1)
    refine List.Perm.trans h1 ?_
    have e : (es.toList.map (Go.WideElems.rg (H := Unit) P kt (fun _ => some (.lit (.bool true), [])))).map (fun p => strOf p.1) = l.map (fun p => p.1.data.toList) := by
      have q : (es.toList.map (Go.WideElems.rg (H := Unit) P kt (fun _ => some (.lit (.bool true), [])))).map (fun p => strOf p.1) = (es.toList.map (·.key)).map (fun v => match v with | .string s => s.data.toList | _ => []) := by
        rw [List.map_map, List.map_map]
        refine List.map_congr_left fun x j => ?_
        obtain ⟨s, i, k⟩ := g x j
        simp [Go.WideElems.rg, k, i, strOf]
      rw [q, d, List.map_map, List.map_map]
      rfl
    rw [e]
  · have h1 := (sorted_perm (es.toList.map (Go.WideElems.rg (H := Unit) P kt (fun _ => some (.lit (.bool true), []))))).length_eq
    show (List.foldr DataW.insert [] _).length = _
    rw [h1, List.length_map, ← h.length]
    simp
theorem DD {l : List ByteArray} {g : List (List UInt8)} (h : g.Perm (l.map fun b => b.data.toList)) : g.mergeSort (fun x y => decide (x ≤ y)) = (oy l).map (fun b => b.data.toList) := by
  rw [IT]
  have le : ∀ a b c : List UInt8, decide (a ≤ b) = true → decide (b ≤ c) = true → decide (a ≤ c) = true := fun a b c h1 d => by
    simp only [decide_eq_true_eq] at *
    exact List.le_trans h1 d
  have tot : ∀ a b : List UInt8, (decide (a ≤ b) || decide (b ≤ a)) = true := fun a b => by
    simp only [Bool.or_eq_true, decide_eq_true_eq]
    exact List.le_total a b
  refine List.Perm.eq_of_pairwise (le := fun a b => decide (a ≤ b) = true) (fun a b _ _ h1 d => List.le_antisymm (by simpa using h1) (by simpa using d)) (List.pairwise_mergeSort le tot _) (List.pairwise_mergeSort le tot _) ?_
  exact (List.mergeSort_perm _ _).trans (h.trans (List.mergeSort_perm _ _).symm)
section
variable {P : Program} {ρk ρt ρm : Ren}
theorem Fi (LK : SlLaysZ.n7 P ρk) (LT : SlLaysZ.n6 P ρt) (LM : SlLaysM.n6 P ρm) (h9 : ρt.f 9 = ρm.f 6) (hK : P.underlying (ρk.t 26) = some .string) (eg : ∀ args w, (callFunc (ρk.f 10) args).run P w = .ok (.enter (ρk.f 10) args) w) (es : ∀ args w, (callFunc (ρt.f 9) args).run P w = .ok (.enter (ρt.f 9) args) w) {β : Type} {vf : β → Value} {l : List (ByteArray × β)} {b : Nat} {mv : Value} {t : TypeId} {W : World} {r : List ByteArray} (z : W.heap[b]? = some (.cells #[mv] t (0, 0))) (hm : pH Value.string vf (hp W) mv l) (hk : Bf l = some r) :
    dP false P (ρt.f 6) [.func (.func (ρk.f 10)) #[] #[.pointer (some ⟨b, 0, none⟩)]] W (ρt.t 26) mJ 1 r := by
  unfold Bf at hk
  split at hk
  case isFalse => cases hk
  rename_i hc
  obtain ⟨R, T, U⟩ := hc
  cases hk
  have j : b < W.heap.size := (Array.getElem?_eq_some_iff.1 z).1
  have d : W.cell? ⟨b, 0, none⟩ = some mv := by simp [World.cell?, z]
  have s : AnyZ.SortsIn P ρt Fence.wide 4 :=
    ⟨fun L off cap i W hH hblk u => callsIn_wide.2 (by rw [h9]; exact AnyM.slices_Sort_string LM L off cap i W hH hblk u), fun p cap W => callsIn_wide.2 (by rw [h9]; exact AnyM.slices_Sort_string_none LM p cap W)⟩
  have G : SeqGives Fence.wide 2 P (ρk.f 10) #[.pointer (some ⟨b, 0, none⟩)] encStr (fun i => i.Perm ((l.map (·.1)).map fun b => b.data.toList)) l.length W := by
    rcases hm with ⟨rfl, rfl⟩ | ⟨m, es, clock, rfl, a1, A⟩
    · have := AnyZ.keys_gives_nil (ρ := ρk) { LK with } Fence.wide 2 trivial rfl b W j d
      intro l' J W' O M Q I
      refine CallsIn.mono (this l' J W' O M Q I) ?_
      rintro e w' ⟨hv, i, rfl, hj⟩
      exact ⟨hv, [], List.Perm.refl _, hj⟩
    · obtain ⟨D, E, q, u⟩ := Fa hK A R T (by unfold maxLen; omega) a1
      have := AnyZ.keys_gives (ρ := ρk) { LK with } Fence.wide 2 trivial rfl (by omega) b m es.size D W j d E
      intro l' J W' O M Q I
      refine CallsIn.mono (this l' J W' O M (by rw [u]; exact Q) I) ?_
      rintro e w' ⟨hv, i, hp, hj⟩
      refine ⟨hv, i, ?_, hj⟩
      rw [List.map_map]
      exact hp.trans q
  have cS := AnyZ.sorted_in LT Fence.wide 5 trivial trivial trivial trivial rfl (by omega) s es (ρk.f 10) #[.pointer (some ⟨b, 0, none⟩)] trivial eg _ l.length (by unfold maxLen; omega) U W G
  refine Calls.mono (callsIn_wide.1 cS) ?_
  rintro e w' ⟨v, i, rfl, hS, F, a7, a⟩
  have hs := DD hS
  have hlen : i.length = (oy (l.map (·.1))).length := by
    have := congrArg List.length hs
    simpa using this
  have n : (i.mergeSort (fun x y => decide (x ≤ y))).map encStr = ((oy (l.map (·.1))).map mJ).flatten := by
    rw [hs, KT, List.map_map]
    refine List.map_congr_left (fun x _ => ?_)
    simp only [Function.comp, encStr]
  rcases F.2 with ⟨rfl, I⟩ | ⟨g, cap, cur, rfl, k, hg, a8, Y, Z, a6⟩
  · have : oy (l.map (·.1)) = [] := List.eq_nil_of_length_eq_zero (by omega)
    rw [this]
    exact ⟨_, [], rfl, ny.DM ⟨a.os, a.tape, a.output, fun h => (by cases h), a.size, fun b z => a.block b z⟩ (fun _ _ h => by cases h) (by simp), bG.nil _ _ _⟩
  · refine ⟨_, [(g, .cells cur (ρt.t 26) (0, 0))], rfl, ny.DM ⟨a.os, a.tape, a.output, fun h => (by cases h), a.size, fun b z => a.block b z⟩ (fun b o h => by simp at h; obtain ⟨rfl, rfl⟩ := h; exact ⟨hg, k⟩) (by simp), .inr ⟨g, cap, cur, by rw [hlen], rfl, by omega, Y, Z, ?_⟩⟩
    rw [← hlen, a6, n]
end
end Go.Proofs.YtmlncblocfcmiaaGreat
namespace Go.Proofs.YtmlncblocfcmiaaGreat
def HR : Go.Shelf.Ren := ⟨fun | 6 => 230 | 15 => 322 | 14 => 321 | 28 => 367 | 29 => 368 | 20 => 359 | 21 => 360 | 22 => 361 | 23 => 362 | 24 => 363 | 25 => 364 | 26 => 365 | 27 => 366 | 46 => 410 | 47 => 411 | 48 => 412 | 49 => 413 | 50 => 414 | 57 => 449 | n => n, fun | 22 => 22 | 24 => 53 | 25 => 194 | 3 => 3 | 39 => 353 | 0 => 0 | 53 => 389 | 55 => 309 | 4 => 4 | 46 => 383 | 45 => 382 | 50 => 39 | 5 => 5 | 9 => 9 | 66 => 419 | 70 => 423 | 76 => 446 | 77 => 274 | n => n, fun | n => n⟩
theorem KZ : Go.Proofs.SlLaysF0.n6 Tryz.prog HR := {
  mixed := by kernel_rfl,
  f6 := ⟨Tryz.f230.name, by decide, Tryz.func230.trans (congrArg some (by kernel_rfl))⟩,
  f14 := ⟨Tryz.f321.name, by decide, Tryz.func321.trans (congrArg some (by kernel_rfl))⟩,
  f15 := Tryz.func322.trans (congrArg some (by kernel_rfl)),
  f20 := ⟨Tryz.f359.name, by decide, Tryz.func359.trans (congrArg some (by kernel_rfl))⟩,
  f21 := ⟨Tryz.f360.name, by decide, Tryz.func360.trans (congrArg some (by kernel_rfl))⟩,
  f22 := ⟨Tryz.f361.name, by decide, Tryz.func361.trans (congrArg some (by kernel_rfl))⟩,
  f23 := ⟨Tryz.f362.name, by decide, Tryz.func362.trans (congrArg some (by kernel_rfl))⟩,
  f24 := ⟨Tryz.f363.name, by decide, Tryz.func363.trans (congrArg some (by kernel_rfl))⟩,
  f25 := ⟨Tryz.f364.name, by decide, Tryz.func364.trans (congrArg some (by kernel_rfl))⟩,
  f26 := ⟨Tryz.f365.name, by decide, Tryz.func365.trans (congrArg some (by kernel_rfl))⟩,
  f27 := ⟨Tryz.f366.name, by decide, Tryz.func366.trans (congrArg some (by kernel_rfl))⟩,
  f28 := Tryz.func367.trans (congrArg some (by kernel_rfl)),
  f29 := Tryz.func368.trans (congrArg some (by kernel_rfl)),
  f46 := ⟨Tryz.f410.name, by decide, Tryz.func410.trans (congrArg some (by kernel_rfl))⟩,
  f47 := Tryz.func411.trans (congrArg some (by kernel_rfl)),
  f48 := Tryz.func412.trans (congrArg some (by kernel_rfl)),
  f49 := ⟨Tryz.f413.name, by decide, Tryz.func413.trans (congrArg some (by kernel_rfl))⟩,
  f50 := ⟨Tryz.f414.name, by decide, Tryz.func414.trans (congrArg some (by kernel_rfl))⟩,
  f57 := ⟨Tryz.f449.name, by decide, Tryz.func449.trans (congrArg some (by kernel_rfl))⟩,
  t0 := Tryz.underlying0,
  a0 := Tryz.isAgg0,
  z0 := Tryz.sizeOf0,
  v0 := Tryz.zeroValue0,
  t3 := Tryz.underlying3,
  a3 := Tryz.isAgg3,
  z3 := Tryz.sizeOf3,
  v3 := Tryz.zeroValue3,
  t4 := Tryz.underlying4,
  a4 := Tryz.isAgg4,
  z4 := Tryz.sizeOf4,
  v4 := Tryz.zeroValue4,
  t5 := Tryz.underlying5,
  a5 := Tryz.isAgg5,
  z5 := Tryz.sizeOf5,
  v5 := Tryz.zeroValue5,
  t9 := Tryz.underlying9,
  a9 := Tryz.isAgg9,
  z9 := Tryz.sizeOf9,
  v9 := Tryz.zeroValue9,
  t22 := Tryz.underlying22,
  a22 := Tryz.isAgg22,
  z22 := Tryz.sizeOf22,
  v22 := Tryz.zeroValue22,
  t25 := Tryz.underlying194,
  a25 := Tryz.isAgg194,
  z25 := Tryz.sizeOf194,
  v25 := Tryz.zeroValue194,
  t39 := Tryz.underlying353,
  a39 := Tryz.isAgg353,
  z39 := Tryz.sizeOf353,
  v39 := Tryz.zeroValue353,
  t45 := Tryz.underlying382,
  a45 := Tryz.isAgg382,
  z45 := Tryz.sizeOf382,
  v45 := Tryz.zeroValue382,
  t46 := Tryz.underlying383,
  a46 := Tryz.isAgg383,
  z46 := Tryz.sizeOf383,
  v46 := Tryz.zeroValue383,
  t50 := Tryz.underlying39,
  a50 := Tryz.isAgg39,
  z50 := Tryz.sizeOf39,
  v50 := Tryz.zeroValue39,
  t53 := Tryz.underlying389,
  a53 := Tryz.isAgg389,
  z53 := Tryz.sizeOf389,
  v53 := Tryz.zeroValue389,
  t55 := Tryz.underlying309,
  a55 := Tryz.isAgg309,
  z55 := Tryz.sizeOf309,
  v55 := Tryz.zeroValue309,
  t66 := Tryz.underlying419,
  a66 := Tryz.isAgg419,
  z66 := Tryz.sizeOf419,
  v66 := Tryz.zeroValue419,
  t70 := Tryz.underlying423,
  a70 := Tryz.isAgg423,
  z70 := Tryz.sizeOf423,
  v70 := Tryz.zeroValue423,
  t76 := Tryz.underlying446,
  a76 := Tryz.isAgg446,
  z76 := Tryz.sizeOf446,
  v76 := Tryz.zeroValue446,
  t77 := Tryz.underlying274,
  a77 := Tryz.isAgg274,
  z77 := Tryz.sizeOf274,
  v77 := Tryz.zeroValue274}
def Ln : Go.Shelf.Ren := ⟨fun | 6 => 273 | 8 => 322 | 9 => 343 | 19 => 367 | 20 => 368 | 21 => 396 | 22 => 397 | 23 => 398 | 24 => 399 | 25 => 400 | 26 => 401 | 27 => 402 | 28 => 403 | 29 => 404 | 36 => 426 | 31 => 411 | 32 => 412 | 37 => 427 | 38 => 428 | 39 => 429 | 41 => 454 | n => n, fun | 27 => 82 | 29 => 9 | 3 => 3 | 32 => 353 | 26 => 82 | 0 => 0 | 44 => 389 | 46 => 309 | 4 => 4 | 36 => 383 | 35 => 382 | 41 => 39 | 5 => 5 | 9 => 9 | 53 => 419 | 57 => 423 | 63 => 446 | 64 => 274 | n => n, fun | n => n⟩
theorem KM : Go.Proofs.SlLaysM.n6 Tryz.prog Ln := {
  mixed := by kernel_rfl,
  f6 := ⟨Tryz.f273.name, by decide, Tryz.func273.trans (congrArg some (by kernel_rfl))⟩,
  f8 := Tryz.func322.trans (congrArg some (by kernel_rfl)),
  f9 := ⟨Tryz.f343.name, by decide, Tryz.func343.trans (congrArg some (by kernel_rfl))⟩,
  f19 := Tryz.func367.trans (congrArg some (by kernel_rfl)),
  f20 := Tryz.func368.trans (congrArg some (by kernel_rfl)),
  f21 := ⟨Tryz.f396.name, by decide, Tryz.func396.trans (congrArg some (by kernel_rfl))⟩,
  f22 := ⟨Tryz.f397.name, by decide, Tryz.func397.trans (congrArg some (by kernel_rfl))⟩,
  f23 := ⟨Tryz.f398.name, by decide, Tryz.func398.trans (congrArg some (by kernel_rfl))⟩,
  f24 := ⟨Tryz.f399.name, by decide, Tryz.func399.trans (congrArg some (by kernel_rfl))⟩,
  f25 := ⟨Tryz.f400.name, by decide, Tryz.func400.trans (congrArg some (by kernel_rfl))⟩,
  f26 := ⟨Tryz.f401.name, by decide, Tryz.func401.trans (congrArg some (by kernel_rfl))⟩,
  f27 := ⟨Tryz.f402.name, by decide, Tryz.func402.trans (congrArg some (by kernel_rfl))⟩,
  f28 := ⟨Tryz.f403.name, by decide, Tryz.func403.trans (congrArg some (by kernel_rfl))⟩,
  f29 := ⟨Tryz.f404.name, by decide, Tryz.func404.trans (congrArg some (by kernel_rfl))⟩,
  f31 := Tryz.func411.trans (congrArg some (by kernel_rfl)),
  f32 := Tryz.func412.trans (congrArg some (by kernel_rfl)),
  f36 := ⟨Tryz.f426.name, by decide, Tryz.func426.trans (congrArg some (by kernel_rfl))⟩,
  f37 := ⟨Tryz.f427.name, by decide, Tryz.func427.trans (congrArg some (by kernel_rfl))⟩,
  f38 := ⟨Tryz.f428.name, by decide, Tryz.func428.trans (congrArg some (by kernel_rfl))⟩,
  f39 := ⟨Tryz.f429.name, by decide, Tryz.func429.trans (congrArg some (by kernel_rfl))⟩,
  f41 := ⟨Tryz.f454.name, by decide, Tryz.func454.trans (congrArg some (by kernel_rfl))⟩,
  t0 := Tryz.underlying0,
  a0 := Tryz.isAgg0,
  z0 := Tryz.sizeOf0,
  v0 := Tryz.zeroValue0,
  t3 := Tryz.underlying3,
  a3 := Tryz.isAgg3,
  z3 := Tryz.sizeOf3,
  v3 := Tryz.zeroValue3,
  t4 := Tryz.underlying4,
  a4 := Tryz.isAgg4,
  z4 := Tryz.sizeOf4,
  v4 := Tryz.zeroValue4,
  t5 := Tryz.underlying5,
  a5 := Tryz.isAgg5,
  z5 := Tryz.sizeOf5,
  v5 := Tryz.zeroValue5,
  t9 := Tryz.underlying9,
  a9 := Tryz.isAgg9,
  z9 := Tryz.sizeOf9,
  v9 := Tryz.zeroValue9,
  t26 := Tryz.underlying82,
  a26 := Tryz.isAgg82,
  z26 := Tryz.sizeOf82,
  v26 := Tryz.zeroValue82,
  t27 := Tryz.underlying82,
  a27 := Tryz.isAgg82,
  z27 := Tryz.sizeOf82,
  v27 := Tryz.zeroValue82,
  t29 := Tryz.underlying9,
  a29 := Tryz.isAgg9,
  z29 := Tryz.sizeOf9,
  v29 := Tryz.zeroValue9,
  t32 := Tryz.underlying353,
  a32 := Tryz.isAgg353,
  z32 := Tryz.sizeOf353,
  v32 := Tryz.zeroValue353,
  t35 := Tryz.underlying382,
  a35 := Tryz.isAgg382,
  z35 := Tryz.sizeOf382,
  v35 := Tryz.zeroValue382,
  t36 := Tryz.underlying383,
  a36 := Tryz.isAgg383,
  z36 := Tryz.sizeOf383,
  v36 := Tryz.zeroValue383,
  t41 := Tryz.underlying39,
  a41 := Tryz.isAgg39,
  z41 := Tryz.sizeOf39,
  v41 := Tryz.zeroValue39,
  t44 := Tryz.underlying389,
  a44 := Tryz.isAgg389,
  z44 := Tryz.sizeOf389,
  v44 := Tryz.zeroValue389,
  t46 := Tryz.underlying309,
  a46 := Tryz.isAgg309,
  z46 := Tryz.sizeOf309,
  v46 := Tryz.zeroValue309,
  t53 := Tryz.underlying419,
  a53 := Tryz.isAgg419,
  z53 := Tryz.sizeOf419,
  v53 := Tryz.zeroValue419,
  t57 := Tryz.underlying423,
  a57 := Tryz.isAgg423,
  z57 := Tryz.sizeOf423,
  v57 := Tryz.zeroValue423,
  t63 := Tryz.underlying446,
  a63 := Tryz.isAgg446,
  z63 := Tryz.sizeOf446,
  v63 := Tryz.zeroValue446,
  t64 := Tryz.underlying274,
  a64 := Tryz.isAgg274,
  z64 := Tryz.sizeOf274,
  v64 := Tryz.zeroValue274}
def Kc : Go.Shelf.Ren := ⟨fun | 7 => 234 | 10 => 327 | n => n, fun | 23 => 296 | 26 => 9 | 3 => 4 | 28 => 223 | 0 => 0 | 27 => 222 | 33 => 214 | 4 => 4 | n => n, fun | n => n⟩
theorem J4 : Go.Proofs.SlLaysZ.n7 Tryz.prog Kc := {
  mixed := by kernel_rfl,
  f7 := ⟨Tryz.f234.name, by decide, Tryz.func234.trans (congrArg some (by kernel_rfl))⟩,
  f10 := ⟨Tryz.f327.name, by decide, Tryz.func327.trans (congrArg some (by kernel_rfl))⟩,
  t0 := Tryz.underlying0,
  a0 := Tryz.isAgg0,
  z0 := Tryz.sizeOf0,
  v0 := Tryz.zeroValue0,
  t4 := Tryz.underlying4,
  a4 := Tryz.isAgg4,
  z4 := Tryz.sizeOf4,
  v4 := Tryz.zeroValue4,
  t23 := Tryz.underlying296,
  a23 := Tryz.isAgg296,
  z23 := Tryz.sizeOf296,
  v23 := Tryz.zeroValue296,
  t26 := Tryz.underlying9,
  a26 := Tryz.isAgg9,
  z26 := Tryz.sizeOf9,
  v26 := Tryz.zeroValue9,
  t27 := Tryz.underlying222,
  a27 := Tryz.isAgg222,
  z27 := Tryz.sizeOf222,
  v27 := Tryz.zeroValue222,
  t28 := Tryz.underlying223,
  a28 := Tryz.isAgg223,
  z28 := Tryz.sizeOf223,
  v28 := Tryz.zeroValue223,
  t33 := Tryz.underlying214,
  a33 := Tryz.isAgg214,
  z33 := Tryz.sizeOf214,
  v33 := Tryz.zeroValue214}
def Kq : Go.Shelf.Ren := ⟨fun | 6 => 159 | 8 => 272 | 9 => 273 | 11 => 342 | 13 => 322 | 12 => 343 | 23 => 367 | 24 => 368 | 14 => 396 | 15 => 397 | 16 => 398 | 17 => 399 | 18 => 400 | 19 => 401 | 20 => 402 | 21 => 403 | 22 => 404 | 25 => 426 | 26 => 411 | 27 => 412 | 28 => 427 | 29 => 428 | 30 => 429 | 31 => 454 | n => n, fun | 26 => 9 | 28 => 223 | 24 => 82 | 0 => 0 | 3 => 3 | 37 => 353 | 48 => 389 | 50 => 309 | 4 => 4 | 40 => 383 | 39 => 382 | 45 => 39 | 5 => 5 | 9 => 9 | 51 => 419 | 55 => 423 | 57 => 446 | 58 => 274 | 33 => 214 | n => n, fun | n => n⟩
theorem JO : Go.Proofs.SlLaysZ.n6 Tryz.prog Kq := {
  mixed := by kernel_rfl,
  f6 := ⟨Tryz.f159.name, by decide, Tryz.func159.trans (congrArg some (by kernel_rfl))⟩,
  f8 := ⟨Tryz.f272.name, by decide, Tryz.func272.trans (congrArg some (by kernel_rfl))⟩,
  f11 := ⟨Tryz.f342.name, by decide, Tryz.func342.trans (congrArg some (by kernel_rfl))⟩,
  t0 := Tryz.underlying0,
  a0 := Tryz.isAgg0,
  z0 := Tryz.sizeOf0,
  v0 := Tryz.zeroValue0,
  t24 := Tryz.underlying82,
  a24 := Tryz.isAgg82,
  z24 := Tryz.sizeOf82,
  v24 := Tryz.zeroValue82,
  t26 := Tryz.underlying9,
  a26 := Tryz.isAgg9,
  z26 := Tryz.sizeOf9,
  v26 := Tryz.zeroValue9,
  t28 := Tryz.underlying223,
  a28 := Tryz.isAgg223,
  z28 := Tryz.sizeOf223,
  v28 := Tryz.zeroValue223,
  i26 := by kernel_rfl}
end Go.Proofs.YtmlncblocfcmiaaGreat
namespace Go.Proofs.YtmlncblocfcmiaaGreat
open Go.RowKit
set_option maxRecDepth 10000
structure aA where
  aC : ByteArray
  aJ : ByteArray
def aM (x : aA) : List Value := [.string x.aC, .string x.aJ]
def bB (x y : aA) : Bool := (dA x.aC y.aC) && ((dA x.aJ y.aJ) && true)
theorem bD {x y : aA} : bB x y = true ↔ x = y := by
  cases x; cases y; simp [bB, eA]
theorem rL (x : aA) : (aM x).length = 2 := rfl
theorem pp (x : aA) : ∀ u ∈ aM x, u.oneCell' = true := by
  intro u hu
  simp only [aM, List.mem_cons, List.not_mem_nil, or_false] at hu
  rcases hu with rfl | rfl <;> rfl
structure aB where
  Kind : Int
  Head : aA
  cH : ByteArray
  B : aA
  C : aA
  cO : ByteArray
def aG (x : aB) : List Value := [.int .i64 x.Kind, .string x.Head.aC, .string x.Head.aJ, .string x.cH, .string x.B.aC, .string x.B.aJ, .string x.C.aC, .string x.C.aJ, .string x.cO]
def bT (x y : aB) : Bool := (x.Kind == y.Kind) && ((bB x.Head y.Head) && ((dA x.cH y.cH) && ((bB x.B y.B) && ((bB x.C y.C) && ((dA x.cO y.cO) && true)))))
theorem eV {x y : aB} : bT x y = true ↔ x = y := by
  cases x; cases y; simp [bT, eA, bD]
theorem bI (x : aB) : (aG x).length = 9 := rfl
theorem fC (x : aB) : ∀ u ∈ aG x, u.oneCell' = true := by
  intro u hu
  simp only [aG, List.mem_cons, List.not_mem_nil, or_false] at hu
  rcases hu with rfl | rfl | rfl | rfl | rfl | rfl | rfl | rfl | rfl <;> rfl
structure aV where
  aA : aA
  cH : ByteArray
def bZ (x : aV) : List Value := [.string x.aA.aC, .string x.aA.aJ, .string x.cH]
def uH (x y : aV) : Bool := (bB x.aA y.aA) && ((dA x.cH y.cH) && true)
theorem tG {x y : aV} : uH x y = true ↔ x = y := by
  cases x; cases y; simp [uH, eA, bD]
theorem kB (x : aV) : (bZ x).length = 3 := rfl
theorem sR (x : aV) : ∀ u ∈ bZ x, u.oneCell' = true := by
  intro u hu
  simp only [bZ, List.mem_cons, List.not_mem_nil, or_false] at hu
  rcases hu with rfl | rfl | rfl <;> rfl
structure rM where
  oz : Int
  oA : Int
def Bc (x : rM) : List Value := [.int .i64 x.oz, .int .i64 x.oA]
structure cM where
  e : Int
def dT (x : cM) : List Value := [.int .i64 x.e]
structure cW where
  IU : Bool
def eK (x : cW) : List Value := [.bool x.IU]
structure Key where
  cH : ByteArray
  Key : List Int
structure Signed where
  aB : aB
  Tag : List Int
structure Formula where
  Op : Int
  K : Int
  aA : aA
  Kids : List Formula
structure cI where
  Signed : Signed
  aI : Formula
structure gL where
  aA : aA
  aI : Formula
  eS : List aB
structure cR where
  Name : ByteArray
  aT : List cI
  bP : List gL
structure fL where
  aC : cR
  Client : cR
  Formula : Formula
  mo : Int
  fh : rM
  gl : Int
  jE : Int
  ij : Int
  Keys : List Key
noncomputable def gW (a0 : ByteArray) (a : Int) : Option Int :=
  some (qn a0 a)
noncomputable def kQ (a0 : ByteArray) (a : Int) : Option Int :=
  (((gW a0 a)).bind fun b => some b)
noncomputable def ot  : List Int → Option Bool
  | [] => some true
  | d :: a => (((kQ ((⟨#[97, 98, 99, 100, 101, 102, 103, 104, 105, 106, 107, 108, 109, 110, 111, 112, 113, 114, 115, 116, 117, 118, 119, 120, 121, 122, 48, 49, 50, 51, 52, 53, 54, 55, 56, 57, 45]⟩ : ByteArray)) d)).bind fun b => (if (decide (b < 0)) then some false else (ot a)))
noncomputable def vX (a0 : ByteArray) : Option Bool :=
  (((wI a0)).bind fun a => ot a)
noncomputable def lU (a0 : ByteArray) : Option Bool :=
  (((if (decide (((a0.size : Int)) ≥ 1)) then some ((decide (((a0.size : Int)) ≤ 16))) else some false) : Option Bool).bind fun x2 => (((if x2 then (((um a0 0)).bind fun a => (((kQ ((⟨#[97, 98, 99, 100, 101, 102, 103, 104, 105, 106, 107, 108, 109, 110, 111, 112, 113, 114, 115, 116, 117, 118, 119, 120, 121, 122]⟩ : ByteArray)) ((a.toNat : Int)))).bind fun d => some ((decide (d ≥ 0))))) else some false) : Option Bool).bind fun g => (((if g then (((vX a0)).bind fun b => some b) else some false) : Option Bool).bind fun h => some h)))
noncomputable def nD (a0 : List Int) : Option (List Int) :=
  (((eT 1 ([]) a0)).bind fun a => some a)
noncomputable def jo (a0 : aA) : Option Bool :=
  (((lU a0.aC)).bind fun d => (((if d then (((lU a0.aJ)).bind fun a => some a) else some false) : Option Bool).bind fun b => some b))
noncomputable def fZ (a0 a : ByteArray) : Option Int :=
  some (iM a0 a)
noncomputable def jd (a0 a : ByteArray) : Option Int :=
  (((fZ a0 a)).bind fun b => some b)
noncomputable def me  : List Int → Option Int
  | [] => some 0
  | a :: b => (if (a != 0) then some a else (me b))
noncomputable def oq (a0 : List Int) : Option Int :=
  me a0
noncomputable def ll (a0 g : aA) : Option Int :=
  (((jd a0.aC g.aC)).bind fun a => (((jd a0.aJ g.aJ)).bind fun b => (((oq ([a, b]))).bind fun d => some d)))
noncomputable def nn (a0 : aB) : Option Bool :=
  (((jo a0.Head)).bind fun y => (((if (a0.Kind == 1) then (((if y then (((lU a0.cH)).bind fun b => some b) else some false) : Option Bool).bind fun p => some (Sum.inr (p, ((⟨a0.Kind, a0.Head, a0.cH, (⟨zS, zS⟩ : aA), (⟨zS, zS⟩ : aA), zS⟩ : aB))))) else (if (a0.Kind == 2) then (((if y then (((jo a0.B)).bind fun d => some d) else some false) : Option Bool).bind fun q => some (Sum.inr (q, ((⟨a0.Kind, a0.Head, zS, a0.B, (⟨zS, zS⟩ : aA), zS⟩ : aB))))) else (if (a0.Kind == 3) then (((if y then (((jo a0.B)).bind fun h => some h) else some false) : Option Bool).bind fun r => (((if r then some ((dA a0.B.aC a0.Head.aC)) else some false) : Option Bool).bind fun t => (((if t then (((lU a0.cO)).bind fun g => some g) else some false) : Option Bool).bind fun u => some (Sum.inr (u, ((⟨a0.Kind, a0.Head, zS, a0.B, (⟨zS, zS⟩ : aA), a0.cO⟩ : aB))))))) else (if (a0.Kind == 4) then (((if y then (((jo a0.B)).bind fun k => some k) else some false) : Option Bool).bind fun v => (((if v then (((jo a0.C)).bind fun j => some j) else some false) : Option Bool).bind fun w => (((if w then (((ll a0.B a0.C)).bind fun i => some ((decide (i < 0)))) else some false) : Option Bool).bind fun x => some (Sum.inr (x, ((⟨a0.Kind, a0.Head, zS, a0.B, a0.C, zS⟩ : aB))))))) else some (Sum.inl false))))) : Option ((Bool ⊕ ((Bool × aB))))).bind fun s => match s with | .inl a => some a | .inr (l, m) => (((if l then some ((bT m a0)) else some false) : Option Bool).bind fun n => some n)))
noncomputable def jC  : Nat → Int → (List Int) → Option ((Bool × (List Int)))
  | 0, _, _ => none
  | h + 1, a, d => (if (decide (a ≥ 128)) then (((eT 1 d ([(IntKind.u8.wrap (BitVec.ofInt (IntKind.bits .u8) ((IntKind.u8.wrap a)) ||| BitVec.ofInt (IntKind.bits .u8) 128).toNat)]))).bind fun g => (jC h ((Int.fdiv a (2 ^ min (Int.toNat 7) (IntKind.bits .i64)))) g)) else (((eT 1 d ([(IntKind.u8.wrap a)]))).bind fun b => some (true, b)))
noncomputable def gA (a : List Int) (b : Int) : Option ((Bool × (List Int))) :=
  (if (decide (b < 0)) then some (false, a) else jC bL b a)
noncomputable def qJ (a b : List Int) : Option ((Bool × (List Int))) :=
  (if (decide (((b.length : Int)) > 2048)) then some (false, a) else (((gA a ((b.length : Int)))).bind fun g => (((eT 1 g.2 b)).bind fun d => some (true, d))))
noncomputable def nj (a : List Int) (i : ByteArray) : Option ((Bool × (List Int))) :=
  (((lU i)).bind fun j => (((if j then (((wI i)).bind fun g => (((qJ a g)).bind fun b => some (b.1, b.2))) else some (false, a)) : Option ((Bool × (List Int)))).bind fun (h, d) => some (h, d)))
noncomputable def jw (a : List Int) (h : aA) : Option ((Bool × (List Int))) :=
  (((jo h)).bind fun l => (((if l then (((nj a h.aC)).bind fun g => some (g.1, g.2)) else some (false, a)) : Option ((Bool × (List Int)))).bind fun (j, b) => (((if j then (((nj b h.aJ)).bind fun d => some (d.1, d.2)) else some (false, b)) : Option ((Bool × (List Int)))).bind fun (k, i) => some (k, i))))
noncomputable def mZ (a : List Int) : Option (List Int) :=
  (((nD a)).bind fun b => some b)
noncomputable def pT (a0 : aB) : Option (List Int) :=
  (((nn a0)).bind fun m => (if (!m) then some [] else (((gA ([]) a0.Kind)).bind fun n => (((jw n.2 a0.Head)).bind fun a => (((if (a0.Kind == 1) then (((nj a.2 a0.cH)).bind fun g => some g.2) else (if (a0.Kind == 2) then (((jw a.2 a0.B)).bind fun h => some h.2) else (if (a0.Kind == 3) then (((jw a.2 a0.B)).bind fun i => (((nj i.2 a0.cO)).bind fun j => some j.2)) else (if (a0.Kind == 4) then (((jw a.2 a0.B)).bind fun k => (((jw k.2 a0.C)).bind fun l => some l.2)) else some a.2)))) : Option (List Int)).bind fun b => (((mZ b)).bind fun d => some d))))))
noncomputable def iz (a0 : List aB) : Option (List aB) :=
  (((eT 136 ([]) a0)).bind fun a => some a)
noncomputable def ic (f1 : aB → Option Bool) : List aB → Nat → Option Int
  | [], _ => some (-1)
  | d :: a, i35 => (((f1 d)).bind fun b => (if b then some (i35 : Int) else (ic f1 a (i35 + 1))))
noncomputable def nx (a0 : List aB) (f1 : aB → Option Bool) : Option Int :=
  ic f1 a0 0
noncomputable def gd (f1 : aB → Option Bool) : Nat → (List aB) → Int → Int → Option (List aB)
  | 0, _, _, _ => none
  | n321 + 1, b, a, d => (if (decide (d < ((b.length : Int)))) then (((((dU b d)).bind fun g => (((f1 g)).bind fun i => (if (!i) then (((dU b a)).bind fun k => some (((b.set (Int.toNat a) g)), ((IntKind.i64.wrap (a + 1))))) else some (b, a)))) : Option (((List aB) × Int))).bind fun (h, j) => (gd f1 n321 h j ((IntKind.i64.wrap (d + 1))))) else (((lV (decide (0 ≤ a) && decide (a ≤ (b.length : Int))))).bind fun _ => (((lV (decide (0 ≤ a) && decide (a ≤ (((ib b (Int.toNat a) (⟨0, (⟨zS, zS⟩ : aA), zS, (⟨zS, zS⟩ : aA), (⟨zS, zS⟩ : aA), zS⟩ : aB))).length : Int))))).bind fun _ => some (((ib b (Int.toNat a) (⟨0, (⟨zS, zS⟩ : aA), zS, (⟨zS, zS⟩ : aA), (⟨zS, zS⟩ : aA), zS⟩ : aB))).take (Int.toNat a)))))
noncomputable def gI (a0 : List aB) (f1 : aB → Option Bool) : Option (List aB) :=
  (((nx a0 f1)).bind fun a => (if (a == ((-1))) then some a0 else gd f1 bL a0 a ((IntKind.i64.wrap (a + 1)))))
noncomputable def ra (a0 : aB) : Option Bool :=
  (((nn a0)).bind fun a => some (!a))
noncomputable def pN (a0 a : List Int) : Option Int :=
  some (rJ a0 a)
noncomputable def mU (a0 g : aB) : Option Int :=
  (((pT a0)).bind fun a => (((pT g)).bind fun b => (((pN a b)).bind fun d => some d)))
noncomputable def gJ (b : Int) : Nat → (List aB) → Int → Int → Option (((List aB) × Int))
  | 0, _, _, _ => none
  | i + 1, a, d, g => (if (decide (g < (((a.length - (Int.toNat b) : Nat) : Int)))) then (((((dU (a.drop (Int.toNat b)) g)).bind fun k => (((dU (a.drop (Int.toNat b)) ((IntKind.i64.wrap (g - 1))))).bind fun l => (if (!(bT k l)) then (((dU (a.drop (Int.toNat b)) g)).bind fun m => (((dU a d)).bind fun n => some (((a.set (Int.toNat d) m)), ((IntKind.i64.wrap (d + 1)))))) else some (a, d)))) : Option (((List aB) × Int))).bind fun (h, j) => (gJ b i h j ((IntKind.i64.wrap (g + 1))))) else some (a, d))
noncomputable def gE (a0 : List aB) : Nat → Int → Option (List aB)
  | 0, _ => none
  | g + 1, a => (if (decide (a < ((a0.length : Int)))) then (((dU a0 a)).bind fun h => (((dU a0 ((IntKind.i64.wrap (a - 1))))).bind fun i => (if (bT h i) then (((lV (decide (0 ≤ a) && decide (a ≤ (a0.length : Int))))).bind fun _ => ((gJ a bL a0 a 1 : Option (((List aB) × Int))).bind fun (d, b) => (((lV (decide (0 ≤ b) && decide (b ≤ (d.length : Int))))).bind fun _ => (((lV (decide (0 ≤ b) && decide (b ≤ (((ib d (Int.toNat b) (⟨0, (⟨zS, zS⟩ : aA), zS, (⟨zS, zS⟩ : aA), (⟨zS, zS⟩ : aA), zS⟩ : aB))).length : Int))))).bind fun _ => some (((ib d (Int.toNat b) (⟨0, (⟨zS, zS⟩ : aA), zS, (⟨zS, zS⟩ : aA), (⟨zS, zS⟩ : aA), zS⟩ : aB))).take (Int.toNat b)))))) else (gE a0 g ((IntKind.i64.wrap (a + 1))))))) else some a0)
noncomputable def lZ (a0 : List aB) : Option (List aB) :=
  (if (decide (((a0.length : Int)) < 2)) then some a0 else gE a0 bL 1)
noncomputable def nR (a0 : List aB) : Option (List aB) :=
  (((iz a0)).bind fun g => (((gI g (fun (x : aB) => ra x))).bind fun a => (((tD (fun (x : (aB × aB)) => mU x.1 x.2) a)).bind fun b => (((lZ b)).bind fun d => some d))))
noncomputable def jx (d : aB) : List aB → Nat → Option Int
  | [], _ => some (-1)
  | b :: a, i46 => (if (bT d b) then some (i46 : Int) else (jx d a (i46 + 1)))
noncomputable def pA (a0 : List aB) (a : aB) : Option Int :=
  jx a a0 0
noncomputable def lJ (a0 : List aB) (a : aB) : Option Bool :=
  (((pA a0 a)).bind fun b => some (decide (b ≥ 0)))
noncomputable def kk (a0 : List aB) (a : aB) : Option Bool :=
  (((lJ a0 a)).bind fun b => some b)
noncomputable def si (a0 : aB) : Option (List aA) :=
  (((nn a0)).bind fun h => (if (!h) then some [] else (((if (a0.Kind != 1) then (((eT 32 ([a0.Head]) ([a0.B]))).bind fun g => some g) else some ([a0.Head])) : Option (List aA)).bind fun a => (((if (a0.Kind == 4) then (((eT 32 a ([a0.C]))).bind fun d => some d) else some a) : Option (List aA)).bind fun b => some b))))
noncomputable def gQ (i : aB) (a : List (ByteArray × (List aB))) (g : List aB) : List aA → (List (aA × (List aB))) → Option (((List aB) × (List (aA × (List aB))) × (List (ByteArray × (List aB)))))
  | [], b => (if (i.Kind == 3) then (((eT 136 (((dE dA a i.cO).getD [])) ([i]))).bind fun k => some (g, b, (gG dA a i.cO k))) else some (g, b, a))
  | d :: h, b => (((eT 136 (((dE bB b d).getD [])) ([i]))).bind fun j => (gQ i a g h ((gG bB b d j))))
noncomputable def mK (i : List (aA × (List (ByteArray × Bool)))) (a : List aB) (d : List (aA × (List aB))) (b : List (ByteArray × (List aB))) (g : List aV) (l : Int) (j : aB) : Option (((List aB) × (List (aA × (List aB))) × (List (ByteArray × (List aB))))) :=
  (((eT 136 a ([j]))).bind fun k => (((si j)).bind fun h => (((lV (decide (0 ≤ 1) && decide (1 ≤ (h.length : Int))))).bind fun _ => gQ j b k ((h.drop (Int.toNat 1))) d)))
noncomputable def gp (a : List (aA × (List (ByteArray × Bool)))) (g : List aB) (i : List (aA × (List aB))) (h : List (ByteArray × (List aB))) (b : List aV) (d : Int) (j : aA) (a2 : ByteArray) : Option (((List (aA × (List (ByteArray × Bool)))) × (List aV) × Int)) :=
  (if (tI dA (((dE bB a j).getD [])) a2 false) then some (a, b, d) else (((if (dE bB a j).isNone then (((Az bB a j ([]))).bind fun k => some k) else some a) : Option (List (aA × (List (ByteArray × Bool))))).bind fun l => (((AE bB dA l j a2 true)).bind fun m => (((eT 48 b ([(⟨j, a2⟩ : aV)]))).bind fun n => some (m, n, (IntKind.i64.wrap (d + 1)))))))
noncomputable def gY (a0 : List (ByteArray × Bool)) : Option Unit :=
  some ()
noncomputable def jU (a : List (aA × (List (ByteArray × Bool)))) (b : List aB) (h : List (aA × (List aB))) (d : List (ByteArray × (List aB))) (g : List aV) (j : Int) (k : aA) : Option (List ByteArray) :=
  (((gY (((dE bB a k).getD [])))).bind fun l => (((Bf (((dE bB a k).getD [])))).bind fun i => some i))
noncomputable def js (a : List aB) (d : List (aA × (List aB))) (b : List (ByteArray × (List aB))) (a2 : aA) : List ByteArray → (List (aA × (List (ByteArray × Bool)))) → (List aV) → Int → Option (((List (aA × (List (ByteArray × Bool)))) × (List aV) × Int))
  | [], g, h, j => some (g, h, j)
  | l :: k, g, h, j => (((gp g a d b h j a2 l)).bind fun i => (js a d b a2 k i.1 i.2.1 i.2.2))
noncomputable def nu (h : List (aA × (List (ByteArray × Bool)))) (a : List aB) (g : List (aA × (List aB))) (b : List (ByteArray × (List aB))) (d : List aV) (i : Int) (j a2 : aA) : Option (((List (aA × (List (ByteArray × Bool)))) × (List aV) × Int)) :=
  (((jU h a g b d i j)).bind fun k => js a g b a2 k h d i)
noncomputable def kR (a : List (aA × (List (ByteArray × Bool)))) (d : List aB) (h : List (aA × (List aB))) (g : List (ByteArray × (List aB))) (b : List aV) (i : Int) (j : aB) (a2 : aV) : Option (((List (aA × (List (ByteArray × Bool)))) × (List aV) × Int)) :=
  (if (j.Kind == 2) then (((gp a d h g b i j.Head a2.cH)).bind fun m => some (m.1, m.2.1, m.2.2)) else (if (j.Kind == 3) then (((nu a d h g b i ((⟨a2.cH, j.cO⟩ : aA)) j.Head)).bind fun k => some (k.1, k.2.1, k.2.2)) else (if (j.Kind == 4) then (((if (tI dA (((dE bB a j.B).getD [])) a2.cH false) then some ((tI dA (((dE bB a j.C).getD [])) a2.cH false)) else some false) : Option Bool).bind fun n => (if n then (((gp a d h g b i j.Head a2.cH)).bind fun l => some (l.1, l.2.1, l.2.2)) else some (a, b, i))) else some (a, b, i))))
noncomputable def iR (a : List aB) (d : List (aA × (List aB))) (b : List (ByteArray × (List aB))) (m : aB) : List ByteArray → (List (aA × (List (ByteArray × Bool)))) → (List aV) → Int → Option (((List (aA × (List (ByteArray × Bool)))) × (List aV) × Int))
  | [], g, h, j => some (g, h, j)
  | l :: k, g, h, j => (((kR g a d b h j m ((⟨m.B, l⟩ : aV)))).bind fun i => (iR a d b m k i.1 i.2.1 i.2.2))
noncomputable def lW (h : List (aA × (List (ByteArray × Bool)))) (a : List aB) (g : List (aA × (List aB))) (b : List (ByteArray × (List aB))) (d : List aV) (i : Int) (j : aB) : Option (((List (aA × (List (ByteArray × Bool)))) × (List aV) × Int)) :=
  (if (j.Kind == 1) then (((gp h a g b d i j.Head j.cH)).bind fun l => some (l.1, l.2.1, l.2.2)) else (((jU h a g b d i j.B)).bind fun k => iR a g b j k h d i))
noncomputable def gx (i : aV) (a : List aB) (d : List (aA × (List aB))) (b : List (ByteArray × (List aB))) : List aB → (List (aA × (List (ByteArray × Bool)))) → (List aV) → Int → Option (((List (aA × (List (ByteArray × Bool)))) × (List aV) × Int))
  | [], g, h, j => some (g, h, j)
  | m :: l, g, h, j => (if (tI dA (((dE bB g m.B).getD [])) i.aA.aC false) then (((gp g a d b h j m.Head i.cH)).bind fun k => (gx i a d b l k.1 k.2.1 k.2.2)) else (gx i a d b l g h j))
noncomputable def iD (a : List aB) (d : List (aA × (List aB))) (b : List (ByteArray × (List aB))) (k : aV) : List aB → (List (aA × (List (ByteArray × Bool)))) → (List aV) → Int → Option (((List (aA × (List (ByteArray × Bool)))) × (List aV) × Int))
  | [], g, h, j => some (g, h, j)
  | m :: l, g, h, j => (((kR g a d b h j m k)).bind fun i => (iD a d b k l i.1 i.2.1 i.2.2))
noncomputable def fP (d : List aB) (b : List (aA × (List aB))) (a : List (ByteArray × (List aB))) : Nat → (List (aA × (List (ByteArray × Bool)))) → (List aV) → Int → Option (((List (aA × (List (ByteArray × Bool)))) × (List aV) × Int))
  | 0, _, _, _ => none
  | p + 1, i, g, j => (if (decide (((g.length : Int)) > 0)) then (((dU g 0)).bind fun h => (((lV (decide (0 ≤ 1) && decide (1 ≤ (g.length : Int))))).bind fun _ => ((iD d b a h (((dE bB b h.aA).getD [])) i ((g.drop (Int.toNat 1))) j : Option (((List (aA × (List (ByteArray × Bool)))) × (List aV) × Int))).bind fun (k, l, q) => ((gx h d b a (((dE dA a h.aA.aJ).getD [])) k l q : Option (((List (aA × (List (ByteArray × Bool)))) × (List aV) × Int))).bind fun (m, n, r) => (fP d b a p m n r))))) else some (i, g, j))
noncomputable def nV (h : List (aA × (List (ByteArray × Bool)))) (a : List aB) (g : List (aA × (List aB))) (b : List (ByteArray × (List aB))) (d : List aV) (i : Int) : Option (((List (aA × (List (ByteArray × Bool)))) × (List aV) × Int)) :=
  fP a g b bL h d i
noncomputable def gr (m : Int) : List aB → (List (aA × (List (ByteArray × Bool)))) → (List aB) → (List (aA × (List aB))) → (List (ByteArray × (List aB))) → (List aV) → Int → Option ((Int × (List (aA × (List (ByteArray × Bool)))) × (List aB) × (List (aA × (List aB))) × (List (ByteArray × (List aB))) × (List aV) × Int))
  | [], d, a, g, h, i, j => (((nV d a g h i j)).bind fun k => some ((IntKind.i64.wrap (k.2.2 - m)), k.1, a, g, h, k.2.1, k.2.2))
  | l :: p, d, a, g, h, i, j => (((nn l)).bind fun q => (((if q then (((kk a l)).bind fun r => some ((!r))) else some false) : Option Bool).bind fun s => (if s then (((mK d a g h i j l)).bind fun b => (((lW d b.1 b.2.1 b.2.2 i j l)).bind fun n => (gr m p n.1 b.1 b.2.1 b.2.2 n.2.1 n.2.2))) else (gr m p d a g h i j))))
noncomputable def nt (h : List (aA × (List (ByteArray × Bool)))) (a : List aB) (g : List (aA × (List aB))) (b : List (ByteArray × (List aB))) (d : List aV) (i : Int) (j : List aB) : Option ((Int × (List (aA × (List (ByteArray × Bool)))) × (List aB) × (List (aA × (List aB))) × (List (ByteArray × (List aB))) × (List aV) × Int)) :=
  gr i j h a g b d i
noncomputable def sr (a0 : List aB) : Option (((List (aA × (List (ByteArray × Bool)))) × (List aB) × (List (aA × (List aB))) × (List (ByteArray × (List aB))) × (List aV) × Int)) :=
  (((nt ([]) ([]) ([]) ([]) ([]) 0 a0)).bind fun a => some (a.2.1, a.2.2.1, a.2.2.2.1, a.2.2.2.2.1, a.2.2.2.2.2.1, a.2.2.2.2.2.2))
noncomputable def jy (a0 g : aV) : Option Int :=
  (((ll a0.aA g.aA)).bind fun a => (((jd a0.cH g.cH)).bind fun b => (((oq ([a, b]))).bind fun d => some d)))
noncomputable def pz (d : List (aA × (List (ByteArray × Bool)))) (g : List aB) (j : List (aA × (List aB))) (h : List (ByteArray × (List aB))) (i : List aV) (l : Int) : Option (List aV) :=
  ((Ha 48 (fun (a : aA) (b : ByteArray) => (⟨a, b⟩ : aV)) d).bind fun fs => ye fs (fun k => (((tD (fun (x : (aV × aV)) => jy x.1 x.2) k)).bind fun m => some m)))
noncomputable def oP (a : List (aA × (List (ByteArray × Bool)))) (b : List aB) (h : List (aA × (List aB))) (d : List (ByteArray × (List aB))) (g : List aV) (i : Int) (j : aA) (a2 : ByteArray) : Option Bool :=
  some (tI dA (((dE bB a j).getD [])) a2 false)
noncomputable def kW  : List aB → Int → Option Int
  | [], b => some b
  | a :: d, b => (kW d ((IntKind.i64.wrap (b + ((IntKind.i64.wrap (((IntKind.i64.wrap (((IntKind.i64.wrap (((IntKind.i64.wrap (((IntKind.i64.wrap (((IntKind.i64.wrap (((IntKind.i64.wrap (((IntKind.i64.wrap (20 + ((a.Head.aC.size : Int))))) + ((a.Head.aJ.size : Int))))) + ((a.cH.size : Int))))) + ((a.B.aC.size : Int))))) + ((a.B.aJ.size : Int))))) + ((a.C.aC.size : Int))))) + ((a.C.aJ.size : Int))))) + ((a.cO.size : Int)))))))))
noncomputable def pc (a0 : List aB) : Option Int :=
  kW a0 0
noncomputable def lm  : List Signed → Int → Option Int
  | [], a => some a
  | b :: d, a => (((pc ([b.aB]))).bind fun g => (lm d ((IntKind.i64.wrap (a + ((IntKind.i64.wrap (g + ((b.Tag.length : Int))))))))))
noncomputable def jJ (h : List Signed) : List Key → Int → Option Int
  | [], a => ((lm h a : Option Int).bind fun b => some b)
  | d :: g, a => (jJ h g ((IntKind.i64.wrap (a + ((IntKind.i64.wrap (((IntKind.i64.wrap (10 + ((d.cH.size : Int))))) + ((d.Key.length : Int)))))))))
noncomputable def nC (a0 : List Key) (a : List Signed) : Option Int :=
  jJ a a0 0
noncomputable def jN (a0 : ByteArray) : Nat → Int → Option Bool
  | 0, _ => none
  | d + 1, b => (if (decide (b < ((a0.size : Int)))) then (((um a0 b)).bind fun a => (((if (decide (((a.toNat : Int)) < 97)) then some true else some ((decide (((a.toNat : Int)) > 122)))) : Option Bool).bind fun g => (((if g then (((if (decide (((a.toNat : Int)) < 48)) then some true else some ((decide (((a.toNat : Int)) > 57)))) : Option Bool).bind fun j => some j) else some false) : Option Bool).bind fun h => (((if h then some ((((a.toNat : Int)) != 45)) else some false) : Option Bool).bind fun i => (if i then some false else (jN a0 d ((IntKind.i64.wrap (b + 1))))))))) else some true)
noncomputable def kH (a0 : ByteArray) : Option Bool :=
  (((if (dA a0 zS) then some true else some ((decide (((a0.size : Int)) > 16)))) : Option Bool).bind fun x2 => (((if x2 then some true else (((um a0 0)).bind fun b => some ((decide (((b.toNat : Int)) < 97))))) : Option Bool).bind fun d => (((if d then some true else (((um a0 0)).bind fun a => some ((decide (((a.toNat : Int)) > 122))))) : Option Bool).bind fun g => (if g then some false else jN a0 bL 0))))
noncomputable def mj (a0 : aA) : Option Bool :=
  (((kH a0.aC)).bind fun d => (((if d then (((kH a0.aJ)).bind fun a => some a) else some false) : Option Bool).bind fun b => some b))
noncomputable def pR (a0 a : aA) : Option Bool :=
  (((if (jB a0.aC a.aC) then some true else (((if (dA a0.aC a.aC) then some ((jB a0.aJ a.aJ)) else some false) : Option Bool).bind fun d => some d)) : Option Bool).bind fun b => some b)
noncomputable def pa (a0 : aB) : Option Bool :=
  (((mj a0.Head)).bind fun t => (if (!t) then some false else (if (a0.Kind == 1) then (((kH a0.cH)).bind fun i => (((if i then some ((bB a0.B ((⟨zS, zS⟩ : aA)))) else some false) : Option Bool).bind fun k => (((if k then some ((bB a0.C ((⟨zS, zS⟩ : aA)))) else some false) : Option Bool).bind fun l => (((if l then some ((dA a0.cO zS)) else some false) : Option Bool).bind fun m => some m)))) else (((if (!(dA a0.cH zS)) then some true else (((mj a0.B)).bind fun d => some ((!d)))) : Option Bool).bind fun n => (if n then some false else (if (a0.Kind == 2) then (((if (bB a0.C ((⟨zS, zS⟩ : aA))) then some ((dA a0.cO zS)) else some false) : Option Bool).bind fun p => some p) else (if (a0.Kind == 3) then (((if (bB a0.C ((⟨zS, zS⟩ : aA))) then some ((dA a0.B.aC a0.Head.aC)) else some false) : Option Bool).bind fun q => (((if q then (((kH a0.cO)).bind fun j => some j) else some false) : Option Bool).bind fun r => some r)) else (((if (a0.Kind == 4) then some ((dA a0.cO zS)) else some false) : Option Bool).bind fun s => (((if s then (((mj a0.C)).bind fun b => some b) else some false) : Option Bool).bind fun g => (((if g then (((pR a0.B a0.C)).bind fun a => some a) else some false) : Option Bool).bind fun h => some h))))))))))
noncomputable def mF  : Nat → Int → ByteArray → Option ByteArray
  | 0, _, _ => none
  | n45 + 1, a, b => (if (decide (a ≥ 128)) then (((pY b ((yi ([(IntKind.u8.wrap ((IntKind.i64.wrap (128 + ((Int.tmod a 128))))))]))))).bind fun d => (mF n45 ((IntKind.i64.wrap (Int.tdiv a 128))) d)) else (((pY b ((yi ([(IntKind.u8.wrap a)]))))).bind fun g => some g))
noncomputable def jR (a0 : Int) : Option ByteArray :=
  mF bL a0 zS
noncomputable def nr (a0 : ByteArray) : Option ByteArray :=
  (((jR ((a0.size : Int)))).bind fun a => (((pY a a0)).bind fun b => some b))
noncomputable def mw (a0 : aA) : Option ByteArray :=
  (((nr a0.aC)).bind fun a => (((nr a0.aJ)).bind fun b => (((pY a b)).bind fun d => some d)))
noncomputable def uc (a0 : aB) : Option ByteArray :=
  (((jR a0.Kind)).bind fun g => (((mw a0.Head)).bind fun h => (((pY g h)).bind fun a => (if (a0.Kind == 1) then (((nr a0.cH)).bind fun i => (((pY a i)).bind fun m => some m)) else (((mw a0.B)).bind fun j => (((pY a j)).bind fun b => (((if (a0.Kind == 3) then (((nr a0.cO)).bind fun l => (((pY b l)).bind fun p => some p)) else some b) : Option ByteArray).bind fun d => (((if (a0.Kind == 4) then (((mw a0.C)).bind fun k => (((pY d k)).bind fun n => some n)) else some d) : Option ByteArray).bind fun q => some q))))))))
noncomputable def oT (a0 : aB) : Option ByteArray :=
  (((pa a0)).bind fun a => (if (!a) then some zS else (((uc a0)).bind fun b => some b)))
noncomputable def mh (a0 d : aB) : Option Int :=
  (((oT a0)).bind fun a => (((oT d)).bind fun b => (if (jB a b) then some (-1) else (if (!(jB a b || dA a b)) then some 1 else some 0))))
noncomputable def kY (a : List aB) : List aB → Bool → aB → Option ((Bool × aB))
  | [], d, g => some (d, g)
  | b :: h, d, g => (((pa b)).bind fun i => (((if i then (((if (((a.length : Int)) == 0) then some true else (((dU a ((IntKind.i64.wrap (((a.length : Int)) - 1))))).bind fun q => (((mh q b)).bind fun k => some ((decide (k < 0)))))) : Option Bool).bind fun p => some p) else some false) : Option Bool).bind fun l => (((if l then (((if (!d) then some true else (((mh b g)).bind fun j => some ((decide (j < 0))))) : Option Bool).bind fun n => some n) else some false) : Option Bool).bind fun m => (if m then (kY a h true b) else (kY a h d g)))))
noncomputable def mS (a0 : List aB) : Nat → (List aB) → Option (List aB)
  | 0, _ => none
  | d + 1, a => ((kY a a0 false ((⟨0, (⟨zS, zS⟩ : aA), zS, (⟨zS, zS⟩ : aA), (⟨zS, zS⟩ : aA), zS⟩ : aB)) : Option ((Bool × aB))).bind fun (g, h) => (if (!g) then some a else (((eT 136 a ([h]))).bind fun b => (mS a0 d b))))
noncomputable def nT (a0 : List aB) : Option (List aB) :=
  mS a0 bL ([])
noncomputable def jk (g : List aB) : List aB → Nat → Option Bool
  | [], _ => some true
  | d :: b, i90 => (((dU g ((i90 : Int)))).bind fun a => (if (!(bT d a)) then some false else (jk g b (i90 + 1))))
noncomputable def fX (a0 a : List aB) : Option Bool :=
  (if (((a0.length : Int)) != ((a.length : Int))) then some false else jk a a0 0)
noncomputable def qy (d : aB) : List aB → Option Bool
  | [] => some false
  | b :: a => (if (bT b d) then some true else (qy d a))
noncomputable def pw (a0 : List aB) (a : aB) : Option Bool :=
  qy a a0
noncomputable def lz (a : List ByteArray) : List ByteArray → ByteArray → Option ByteArray
  | [], d => some d
  | b :: g, d => (((kH b)).bind fun i => (((if i then (((if (((a.length : Int)) == 0) then some true else (((dU a ((IntKind.i64.wrap (((a.length : Int)) - 1))))).bind fun h => some ((!(jB b h || dA b h))))) : Option Bool).bind fun m => some m) else some false) : Option Bool).bind fun j => (((if j then (((if (dA d zS) then some true else some ((jB b d))) : Option Bool).bind fun l => some l) else some false) : Option Bool).bind fun k => (if k then (lz a g b) else (lz a g d)))))
noncomputable def mW (a0 : List ByteArray) : Nat → (List ByteArray) → Option (List ByteArray)
  | 0, _ => none
  | g + 1, a => ((lz a a0 zS : Option ByteArray).bind fun b => (if (dA b zS) then some a else (((eT 16 a ([b]))).bind fun d => (mW a0 g d))))
noncomputable def tL (a0 : List ByteArray) : Option (List ByteArray) :=
  mW a0 bL ([])
noncomputable def lA  : List aB → (List ByteArray) → Option (List ByteArray)
  | [], b => (((tL b)).bind fun g => some g)
  | a :: h, b => (((eT 16 b ([a.cH, a.Head.aC, a.B.aC, a.C.aC]))).bind fun d => (lA h d))
noncomputable def rc (a0 : List aB) : Option (List ByteArray) :=
  lA a0 ([])
noncomputable def pj (g : aA) (a2 : ByteArray) : List aV → Option Bool
  | [] => some false
  | b :: d => (((if (bB b.aA g) then some ((dA b.cH a2)) else some false) : Option Bool).bind fun a => (if a then some true else (pj g a2 d)))
noncomputable def nF (a0 : List aV) (a : aA) (a2 : ByteArray) : Option Bool :=
  pj a a2 a0
noncomputable def nN (a0 : List aV) (i : aB) (a3 : ByteArray) : List ByteArray → Option Bool
  | [] => some false
  | a :: b => (((nF a0 i.B a)).bind fun d => (((if d then (((nF a0 ((⟨a, i.cO⟩ : aA)) a3)).bind fun g => some g) else some false) : Option Bool).bind fun h => (if h then some true else (nN a0 i a3 b))))
noncomputable def sJ (a0 : List aV) (a : aB) (a2 : List ByteArray) (a3 : ByteArray) : Option Bool :=
  (if (a.Kind == 1) then some (dA a.cH a3) else (if (a.Kind == 2) then (((nF a0 a.B a3)).bind fun g => some g) else (if (a.Kind == 4) then (((nF a0 a.B a3)).bind fun h => (((if h then (((nF a0 a.C a3)).bind fun b => some b) else some false) : Option Bool).bind fun d => some d)) else nN a0 a a3 a2)))
noncomputable def nh (a0 a : aV) : Option Bool :=
  (((pR a0.aA a.aA)).bind fun g => (((if g then some true else (((if (bB a0.aA a.aA) then some ((jB a0.cH a.cH)) else some false) : Option Bool).bind fun d => some d)) : Option Bool).bind fun b => some b))
noncomputable def iw (b a0 : List aV) : List aV → Nat → Int → Option Int
  | [], _, a => some a
  | h :: g, d, a => (((if (((b.length : Int)) == 0) then some true else (((dU b ((IntKind.i64.wrap (((b.length : Int)) - 1))))).bind fun p => (((nh p h)).bind fun j => some j))) : Option Bool).bind fun k => (((if k then (((if (decide (a < 0)) then some true else (((dU a0 a)).bind fun n => (((nh h n)).bind fun i => some i))) : Option Bool).bind fun m => some m) else some false) : Option Bool).bind fun l => (if l then (iw b a0 g (d + 1) ((d : Int))) else (iw b a0 g (d + 1) a))))
noncomputable def iv (a0 : List aV) : List aV → (List aV) → Option (List aV)
  | [], a => some a
  | i :: d, a => ((iw a a0 a0 0 ((-1)) : Option Int).bind fun b => (if (decide (b ≥ 0)) then (((dU a0 b)).bind fun h => (((eT 48 a ([h]))).bind fun g => (iv a0 d g))) else (iv a0 d a)))
noncomputable def ta (a0 : List aV) : Option (List aV) :=
  iv a0 a0 ([])
noncomputable def nz (b : aB) (m : List ByteArray) : List ByteArray → (List aV) → Bool → Option (((List aV) × Bool))
  | [], a, g => some (a, g)
  | d :: h, a, g => (((nF a b.Head d)).bind fun j => (((if (!j) then (((sJ a b m d)).bind fun k => some k) else some false) : Option Bool).bind fun l => (if l then (((eT 48 a ([(⟨b.Head, d⟩ : aV)]))).bind fun i => (nz b m h i true)) else (nz b m h a g))))
noncomputable def pe (j : List ByteArray) : List aB → (List aV) → Bool → Option (((List aV) × Bool))
  | [], a, b => some (a, b)
  | h :: d, a, b => ((nz h j j a b : Option (((List aV) × Bool))).bind fun (g, i) => (pe j d g i))
noncomputable def nB (i : List ByteArray) (j : List aB) : Nat → (List aV) → Option (List aV)
  | 0, _ => none
  | b + 1, h => ((pe i j h false : Option (((List aV) × Bool))).bind fun (a, g) => (if (!g) then (((ta a)).bind fun d => some d) else (nB i j b a)))
noncomputable def qm (a0 : List aB) : Option (List aV) :=
  (((nT a0)).bind fun b => (((rc b)).bind fun a => nB a b bL ([])))
noncomputable def gU (a0 : aB) (b : aA) : Option (List cI) :=
  (((yS 1 0 8)).bind fun a => some [(⟨(⟨a0, a⟩ : Signed), (⟨1, 0, b, []⟩ : Formula)⟩ : cI)])
noncomputable def iW  : List cI → (List aB) → Option (List aB)
  | [], a => (((nR a)).bind fun d => some d)
  | h :: g, a => (((eT 136 a ([h.Signed.aB]))).bind fun b => (iW g b))
noncomputable def nU (a0 : cR) : Option (List aB) :=
  iW a0.aT ([])
noncomputable def ov (a0 : List aB) (b : ByteArray) : Option (((List (aA × (List (ByteArray × Bool)))) × (List aB) × (List (aA × (List aB))) × (List (ByteArray × (List aB))) × (List aV) × Int × ByteArray)) :=
  (((sr a0)).bind fun a => some (a.1, a.2.1, a.2.2.1, a.2.2.2.1, a.2.2.2.2.1, a.2.2.2.2.2, b))
noncomputable def fN (f1 : cI → Option Bool) : List cI → Nat → Option Int
  | [], _ => some (-1)
  | d :: a, i47 => (((f1 d)).bind fun b => (if b then some (i47 : Int) else (fN f1 a (i47 + 1))))
noncomputable def fp (a0 : List cI) (f1 : cI → Option Bool) : Option Int :=
  fN f1 a0 0
noncomputable def pG (a0 : cI) (a : aB) : Option Bool :=
  some (bT a0.Signed.aB a)
noncomputable def sF (a0 : cR) (d : aB) : Option ((cI × Bool)) :=
  (((fp a0.aT (fun (x : cI) => pG x d))).bind fun a => (if (decide (a < 0)) then some ((⟨(⟨(⟨0, (⟨zS, zS⟩ : aA), zS, (⟨zS, zS⟩ : aA), (⟨zS, zS⟩ : aA), zS⟩ : aB), []⟩ : Signed), (⟨0, 0, (⟨zS, zS⟩ : aA), []⟩ : Formula)⟩ : cI), false) else (((dU a0.aT a)).bind fun b => some (b, true))))
noncomputable def nM (a0 : List gL) : Option (List gL) :=
  (((eT 128 ([]) a0)).bind fun a => some a)
noncomputable def gw (f1 : gL → Option Bool) : List gL → Nat → Option Int
  | [], _ => some (-1)
  | d :: a, i47 => (((f1 d)).bind fun b => (if b then some (i47 : Int) else (gw f1 a (i47 + 1))))
noncomputable def nS (a0 : List gL) (f1 : gL → Option Bool) : Option Int :=
  gw f1 a0 0
noncomputable def gk (f1 : gL → Option Bool) : Nat → (List gL) → Int → Int → Option (List gL)
  | 0, _, _, _ => none
  | i + 1, b, a, d => (if (decide (d < ((b.length : Int)))) then (((((dU b d)).bind fun g => (((f1 g)).bind fun j => (if (!j) then (((dU b a)).bind fun l => some (((b.set (Int.toNat a) g)), ((IntKind.i64.wrap (a + 1))))) else some (b, a)))) : Option (((List gL) × Int))).bind fun (h, k) => (gk f1 i h k ((IntKind.i64.wrap (d + 1))))) else (((lV (decide (0 ≤ a) && decide (a ≤ (b.length : Int))))).bind fun _ => (((lV (decide (0 ≤ a) && decide (a ≤ (((ib b (Int.toNat a) (⟨(⟨zS, zS⟩ : aA), (⟨0, 0, (⟨zS, zS⟩ : aA), []⟩ : Formula), []⟩ : gL))).length : Int))))).bind fun _ => some (((ib b (Int.toNat a) (⟨(⟨zS, zS⟩ : aA), (⟨0, 0, (⟨zS, zS⟩ : aA), []⟩ : Formula), []⟩ : gL))).take (Int.toNat a)))))
noncomputable def kN (a0 : List gL) (f1 : gL → Option Bool) : Option (List gL) :=
  (((nS a0 f1)).bind fun a => (if (a == ((-1))) then some a0 else gk f1 bL a0 a ((IntKind.i64.wrap (a + 1)))))
noncomputable def lj (a0 : gL) (a : aB) : Option Bool :=
  (((kk a0.eS a)).bind fun b => some (!b))
noncomputable def rn (a0 : cR) (b : aB) : Option (List gL) :=
  (((nM a0.bP)).bind fun d => (((kN d (fun (x : gL) => lj x b))).bind fun a => some a))
noncomputable def iI (h : Int) (rec : Formula → Int → Option ((Int × Int))) : List Formula → Int → Int → Option ((Int × Int))
  | [], a, d => some (a, d)
  | i :: g, a, d => (if (decide (a > h)) then some (a, d) else (((rec i ((IntKind.i64.wrap (h - a))))).bind fun b => (iI h rec g ((IntKind.i64.wrap (a + b.1))) ((if b.2 > d then b.2 else d)))))
noncomputable def oR (rec : Formula → Int → Option ((Int × Int))) (a0 : Formula) (d : Int) : Option ((Int × Int)) :=
  ((iI d rec a0.Kids 1 0 : Option ((Int × Int))).bind fun (a, b) => some (a, (IntKind.i64.wrap (b + 1))))
noncomputable def gM : Nat → Formula → Int → Option ((Int × Int))
  | 0 => fun _ _ => none
  | n + 1 => oR (gM n)
noncomputable def ql (a0 : Formula) : Option ((Int × Int)) :=
  (((gM bL a0 4096)).bind fun a => (if (decide (a.1 > 4096)) then some (0, 0) else some (a.1, a.2)))
noncomputable def qD (a0 : Formula) : Option Bool :=
  (if (a0.Op == 1) then (((jo a0.aA)).bind fun g => (((if g then some ((((a0.Kids.length : Int)) == 0)) else some false) : Option Bool).bind fun h => (((if h then some ((a0.K == 0)) else some false) : Option Bool).bind fun i => some i))) else (((if (a0.Op == 2) then some ((a0.Op == 2)) else some ((a0.Op == 3))) : Option Bool).bind fun j => (if j then (((if (bB a0.aA ((⟨zS, zS⟩ : aA))) then some ((a0.K == 0)) else some false) : Option Bool).bind fun k => some k) else (((if (a0.Op == 4) then some ((bB a0.aA ((⟨zS, zS⟩ : aA)))) else some false) : Option Bool).bind fun l => (((if l then some ((decide (a0.K ≥ 0))) else some false) : Option Bool).bind fun a => (((if a then some ((decide (a0.K ≤ ((a0.Kids.length : Int))))) else some false) : Option Bool).bind fun b => (((if b then some ((decide (((a0.Kids.length : Int)) ≥ 1))) else some false) : Option Bool).bind fun d => some d)))))))
noncomputable def fM (f1 : Formula → Option Bool) : List Formula → Nat → Option Int
  | [], _ => some (-1)
  | d :: a, i41 => (((f1 d)).bind fun b => (if b then some (i41 : Int) else (fM f1 a (i41 + 1))))
noncomputable def ml (a0 : List Formula) (f1 : Formula → Option Bool) : Option Int :=
  fM f1 a0 0
noncomputable def gz (a0 : List Formula) (f1 : Formula → Option Bool) : Option Bool :=
  (((ml a0 f1)).bind fun a => some (decide (a ≥ 0)))
noncomputable def nI (rec : Formula → Option Bool) (a0 : Formula) : Option Bool :=
  (((rec a0)).bind fun a => some (!a))
noncomputable def oQ (rec : Formula → Option Bool) (a0 : Formula) : Option Bool :=
  (((qD a0)).bind fun d => (((if d then some ((decide (((a0.Kids.length : Int)) ≤ 8))) else some false) : Option Bool).bind fun g => (((if g then (((gz a0.Kids (fun (x : Formula) => nI rec x))).bind fun a => some ((!a))) else some false) : Option Bool).bind fun b => some b)))
noncomputable def kl : Nat → Formula → Option Bool
  | 0 => fun _ => none
  | n + 1 => oQ (kl n)
noncomputable def ku (a0 : Formula) : Option Bool :=
  (((ql a0)).bind fun b => (((if (decide (b.1 ≥ 1)) then some ((decide (b.1 ≤ 64))) else some false) : Option Bool).bind fun h => (((if h then some ((decide (b.2 ≤ 6))) else some false) : Option Bool).bind fun d => (((if d then (((kl bL a0)).bind fun a => some a) else some false) : Option Bool).bind fun g => some g))))
noncomputable def mV (a0 : Formula) (a : Int) : Option Bool :=
  (((if (a0.Op == a) then some ((((a0.Kids.length : Int)) == 0)) else some false) : Option Bool).bind fun x6 => some x6)
noncomputable def rV  : Option Formula :=
  some (⟨2, 0, (⟨zS, zS⟩ : aA), []⟩ : Formula)
noncomputable def tj  : Option Formula :=
  some (⟨3, 0, (⟨zS, zS⟩ : aA), []⟩ : Formula)
noncomputable def jH (a0 : Int) : List Formula → (List Formula) → Option (List Formula)
  | [], a => some a
  | b :: d, a => (if (b.Op == a0) then (((eT 72 a b.Kids)).bind fun g => (jH a0 d g)) else (((eT 72 a ([b]))).bind fun h => (jH a0 d h)))
noncomputable def tZ (a0 : Int) (a : List Formula) : Option (List Formula) :=
  jH a0 a ([])
noncomputable def jX (a0 : Formula) (a : Int) : Option Bool :=
  (((mV a0 a)).bind fun b => some b)
noncomputable def lG (a0 : List Formula) : Option (List Formula) :=
  (((eT 72 ([]) a0)).bind fun a => some a)
noncomputable def dX (p : Int) (f3 : ((Formula × Formula)) → Option Int) : Nat → (List Formula) → Int → Option (List Formula)
  | 0, _, _ => none
  | h + 1, b, a => (((if (decide (a > p)) then (((dU b a)).bind fun k => (((dU b ((IntKind.i64.wrap (a - 1))))).bind fun l => (((f3 ((k, l)))).bind fun i => some ((decide (i < 0)))))) else some false) : Option Bool).bind fun j => (if j then (((dU b ((IntKind.i64.wrap (a - 1))))).bind fun g => (((dU b a)).bind fun d => (((dU b a)).bind fun m => (((dU ((b.set (Int.toNat a) g)) ((IntKind.i64.wrap (a - 1))))).bind fun n => (dX p f3 h ((((b.set (Int.toNat a) g)).set (Int.toNat ((IntKind.i64.wrap (a - 1)))) ((⟨d.Op, d.K, d.aA, d.Kids⟩ : Formula)))) ((IntKind.i64.wrap (a - 1)))))))) else some b))
noncomputable def dO (a2 h : Int) (f3 : ((Formula × Formula)) → Option Int) : Nat → (List Formula) → Int → Option (List Formula)
  | 0, _, _ => none
  | g + 1, b, a => (if (decide (a < a2)) then ((dX h f3 bL b a : Option (List Formula)).bind fun d => (dO a2 h f3 g d ((IntKind.i64.wrap (a + 1))))) else some b)
noncomputable def fE (a0 : List Formula) (a a2 : Int) (f3 : ((Formula × Formula)) → Option Int) : Option (List Formula) :=
  dO a2 a f3 bL a0 ((IntKind.i64.wrap (a + 1)))
noncomputable def ey (a3 a2 h : Int) : Nat → (List Formula) → Int → Option (List Formula)
  | 0, _, _ => none
  | i + 1, b, a => (if (decide (a < a3)) then (((dU b ((IntKind.i64.wrap (a2 + a))))).bind fun g => (((dU b ((IntKind.i64.wrap (h + a))))).bind fun d => (((dU b ((IntKind.i64.wrap (h + a))))).bind fun j => (((dU ((b.set (Int.toNat ((IntKind.i64.wrap (h + a)))) g)) ((IntKind.i64.wrap (a2 + a))))).bind fun k => (ey a3 a2 h i ((((b.set (Int.toNat ((IntKind.i64.wrap (h + a)))) g)).set (Int.toNat ((IntKind.i64.wrap (a2 + a)))) ((⟨d.Op, d.K, d.aA, d.Kids⟩ : Formula)))) ((IntKind.i64.wrap (a + 1)))))))) else some b)
noncomputable def ft (a0 : List Formula) (a a2 a3 : Int) (f4 : ((Formula × Formula)) → Option Int) : Option (List Formula) :=
  ey a3 a2 a bL a0 0
noncomputable def eO (a2 : Int) (f4 : ((Formula × Formula)) → Option Int) : Nat → (List Formula) → Int → Int → Option (List Formula)
  | 0, _, _, _ => none
  | n185 + 1, d, a, b => (if (a != b) then (if (decide (a > b)) then (((ft d ((IntKind.i64.wrap (a2 - a))) a2 b f4)).bind fun g => (eO a2 f4 n185 g ((IntKind.i64.wrap (a - b))) b)) else (((ft d ((IntKind.i64.wrap (a2 - a))) ((IntKind.i64.wrap (((IntKind.i64.wrap (a2 + b))) - a))) a f4)).bind fun h => (eO a2 f4 n185 h a ((IntKind.i64.wrap (b - a)))))) else (((ft d ((IntKind.i64.wrap (a2 - a))) a2 a f4)).bind fun i => some i))
noncomputable def fj (a0 : List Formula) (a a2 a3 : Int) (f4 : ((Formula × Formula)) → Option Int) : Option (List Formula) :=
  eO a2 f4 bL a0 ((IntKind.i64.wrap (a2 - a))) ((IntKind.i64.wrap (a3 - a2)))
noncomputable def eB (h : Int) : Nat → (List Formula) → Int → Option (List Formula)
  | 0, _, _ => none
  | i + 1, b, a => (if (decide (a < ((IntKind.i64.wrap (h - 1))))) then (((dU b ((IntKind.i64.wrap (a + 1))))).bind fun g => (((dU b a)).bind fun d => (((dU b a)).bind fun j => (((dU ((b.set (Int.toNat a) g)) ((IntKind.i64.wrap (a + 1))))).bind fun k => (eB h i ((((b.set (Int.toNat a) g)).set (Int.toNat ((IntKind.i64.wrap (a + 1)))) ((⟨d.Op, d.K, d.aA, d.Kids⟩ : Formula)))) ((IntKind.i64.wrap (a + 1)))))))) else some b)
noncomputable def dD (a0 : List Formula) (j : Int) (f4 : ((Formula × Formula)) → Option Int) : Nat → Int → Int → Option (List Formula)
  | 0, _, _ => none
  | n325 + 1, a, b => (if (decide (a < b)) then (((dU a0 ((IntKind.i64.wrap ((Int.fdiv ((IntKind.u64.wrap ((IntKind.i64.wrap (a + b))))) (2 ^ min (Int.toNat 1) (IntKind.bits .u64)))))))).bind fun h => (((dU a0 j)).bind fun i => (((f4 ((h, i)))).bind fun g => (if (decide (g < 0)) then (dD a0 j f4 n325 ((IntKind.i64.wrap (((IntKind.i64.wrap ((Int.fdiv ((IntKind.u64.wrap ((IntKind.i64.wrap (a + b))))) (2 ^ min (Int.toNat 1) (IntKind.bits .u64)))))) + 1))) b) else (dD a0 j f4 n325 a ((IntKind.i64.wrap ((Int.fdiv ((IntKind.u64.wrap ((IntKind.i64.wrap (a + b))))) (2 ^ min (Int.toNat 1) (IntKind.bits .u64))))))))))) else ((eB a bL a0 j : Option (List Formula)).bind fun d => some d))
noncomputable def eC (g : Int) : Nat → (List Formula) → Int → Option (List Formula)
  | 0, _, _ => none
  | i + 1, b, a => (if (decide (a > g)) then (((dU b ((IntKind.i64.wrap (a - 1))))).bind fun h => (((dU b a)).bind fun d => (((dU b a)).bind fun j => (((dU ((b.set (Int.toNat a) h)) ((IntKind.i64.wrap (a - 1))))).bind fun k => (eC g i ((((b.set (Int.toNat a) h)).set (Int.toNat ((IntKind.i64.wrap (a - 1)))) ((⟨d.Op, d.K, d.aA, d.Kids⟩ : Formula)))) ((IntKind.i64.wrap (a - 1)))))))) else some b)
noncomputable def dC (a0 : List Formula) (a2 : Int) (f4 : ((Formula × Formula)) → Option Int) : Nat → Int → Int → Option (List Formula)
  | 0, _, _ => none
  | d + 1, a, b => (if (decide (a < b)) then (((dU a0 a2)).bind fun i => (((dU a0 ((IntKind.i64.wrap ((Int.fdiv ((IntKind.u64.wrap ((IntKind.i64.wrap (a + b))))) (2 ^ min (Int.toNat 1) (IntKind.bits .u64)))))))).bind fun j => (((f4 ((i, j)))).bind fun h => (if (!((decide (h < 0)))) then (dC a0 a2 f4 d ((IntKind.i64.wrap (((IntKind.i64.wrap ((Int.fdiv ((IntKind.u64.wrap ((IntKind.i64.wrap (a + b))))) (2 ^ min (Int.toNat 1) (IntKind.bits .u64)))))) + 1))) b) else (dC a0 a2 f4 d a ((IntKind.i64.wrap ((Int.fdiv ((IntKind.u64.wrap ((IntKind.i64.wrap (a + b))))) (2 ^ min (Int.toNat 1) (IntKind.bits .u64))))))))))) else ((eC a bL a0 a2 : Option (List Formula)).bind fun g => some g))
noncomputable def cQ (a0 : List Formula) (d a3 a2 : Int) (f4 : ((Formula × Formula)) → Option Int) (rec : (List Formula) → Int → Int → Int → (((Formula × Formula)) → Option Int) → Option (List Formula)) : Nat → Int → Int → Option (List Formula)
  | 0, _, _ => none
  | i + 1, a, b => (if (decide (a < b)) then (((dU a0 ((IntKind.i64.wrap (((IntKind.i64.wrap (((IntKind.i64.wrap (((IntKind.i64.wrap ((Int.fdiv ((IntKind.u64.wrap ((IntKind.i64.wrap (d + a3))))) (2 ^ min (Int.toNat 1) (IntKind.bits .u64)))))) + a2))) - 1))) - ((IntKind.i64.wrap ((Int.fdiv ((IntKind.u64.wrap ((IntKind.i64.wrap (a + b))))) (2 ^ min (Int.toNat 1) (IntKind.bits .u64))))))))))).bind fun n => (((dU a0 ((IntKind.i64.wrap ((Int.fdiv ((IntKind.u64.wrap ((IntKind.i64.wrap (a + b))))) (2 ^ min (Int.toNat 1) (IntKind.bits .u64)))))))).bind fun p => (((f4 ((n, p)))).bind fun j => (if (!((decide (j < 0)))) then (cQ a0 d a3 a2 f4 rec i ((IntKind.i64.wrap (((IntKind.i64.wrap ((Int.fdiv ((IntKind.u64.wrap ((IntKind.i64.wrap (a + b))))) (2 ^ min (Int.toNat 1) (IntKind.bits .u64)))))) + 1))) b) else (cQ a0 d a3 a2 f4 rec i a ((IntKind.i64.wrap ((Int.fdiv ((IntKind.u64.wrap ((IntKind.i64.wrap (a + b))))) (2 ^ min (Int.toNat 1) (IntKind.bits .u64))))))))))) else (((((if (decide (a < a2)) then some ((decide (a2 < ((IntKind.i64.wrap (((IntKind.i64.wrap (((IntKind.i64.wrap ((Int.fdiv ((IntKind.u64.wrap ((IntKind.i64.wrap (d + a3))))) (2 ^ min (Int.toNat 1) (IntKind.bits .u64)))))) + a2))) - a)))))) else some false) : Option Bool).bind fun s => (if s then (((fj a0 a a2 ((IntKind.i64.wrap (((IntKind.i64.wrap (((IntKind.i64.wrap ((Int.fdiv ((IntKind.u64.wrap ((IntKind.i64.wrap (d + a3))))) (2 ^ min (Int.toNat 1) (IntKind.bits .u64)))))) + a2))) - a))) f4)).bind fun m => some m) else some a0)) : Option (List Formula)).bind fun g => (((((if (decide (d < a)) then some ((decide (a < ((IntKind.i64.wrap ((Int.fdiv ((IntKind.u64.wrap ((IntKind.i64.wrap (d + a3))))) (2 ^ min (Int.toNat 1) (IntKind.bits .u64))))))))) else some false) : Option Bool).bind fun r => (if r then (((rec g d a ((IntKind.i64.wrap ((Int.fdiv ((IntKind.u64.wrap ((IntKind.i64.wrap (d + a3))))) (2 ^ min (Int.toNat 1) (IntKind.bits .u64)))))) f4)).bind fun l => some l) else some g)) : Option (List Formula)).bind fun h => (((if (decide (((IntKind.i64.wrap ((Int.fdiv ((IntKind.u64.wrap ((IntKind.i64.wrap (d + a3))))) (2 ^ min (Int.toNat 1) (IntKind.bits .u64)))))) < ((IntKind.i64.wrap (((IntKind.i64.wrap (((IntKind.i64.wrap ((Int.fdiv ((IntKind.u64.wrap ((IntKind.i64.wrap (d + a3))))) (2 ^ min (Int.toNat 1) (IntKind.bits .u64)))))) + a2))) - a))))) then some ((decide (((IntKind.i64.wrap (((IntKind.i64.wrap (((IntKind.i64.wrap ((Int.fdiv ((IntKind.u64.wrap ((IntKind.i64.wrap (d + a3))))) (2 ^ min (Int.toNat 1) (IntKind.bits .u64)))))) + a2))) - a))) < a3))) else some false) : Option Bool).bind fun q => (if q then (((rec h ((IntKind.i64.wrap ((Int.fdiv ((IntKind.u64.wrap ((IntKind.i64.wrap (d + a3))))) (2 ^ min (Int.toNat 1) (IntKind.bits .u64)))))) ((IntKind.i64.wrap (((IntKind.i64.wrap (((IntKind.i64.wrap ((Int.fdiv ((IntKind.u64.wrap ((IntKind.i64.wrap (d + a3))))) (2 ^ min (Int.toNat 1) (IntKind.bits .u64)))))) + a2))) - a))) a3 f4)).bind fun k => some k) else some h)))))
noncomputable def iE (rec : (List Formula) → Int → Int → Int → (((Formula × Formula)) → Option Int) → Option (List Formula)) (a0 : List Formula) (a a2 a3 : Int) (f4 : ((Formula × Formula)) → Option Int) : Option (List Formula) :=
  (if (((IntKind.i64.wrap (a2 - a))) == 1) then dD a0 a f4 bL a2 a3 else (if (((IntKind.i64.wrap (a3 - a2))) == 1) then dC a0 a2 f4 bL a a2 else (((if (decide (a2 > ((IntKind.i64.wrap ((Int.fdiv ((IntKind.u64.wrap ((IntKind.i64.wrap (a + a3))))) (2 ^ min (Int.toNat 1) (IntKind.bits .u64)))))))) then some (((IntKind.i64.wrap (((IntKind.i64.wrap (((IntKind.i64.wrap ((Int.fdiv ((IntKind.u64.wrap ((IntKind.i64.wrap (a + a3))))) (2 ^ min (Int.toNat 1) (IntKind.bits .u64)))))) + a2))) - a3))), ((IntKind.i64.wrap ((Int.fdiv ((IntKind.u64.wrap ((IntKind.i64.wrap (a + a3))))) (2 ^ min (Int.toNat 1) (IntKind.bits .u64))))))) else some (a, a2)) : Option ((Int × Int))).bind fun (b, d) => cQ a0 a a3 a2 f4 rec bL b d)))
noncomputable def dQ : Nat → (List Formula) → Int → Int → Int → (((Formula × Formula)) → Option Int) → Option (List Formula)
  | 0 => fun _ _ _ _ _ => none
  | n + 1 => iE (dQ n)
noncomputable def eL (j b : Int) (f2 : ((Formula × Formula)) → Option Int) : Nat → (List Formula) → Int → Int → Option (((List Formula) × Int))
  | 0, _, _, _ => none
  | h + 1, g, d, a => (if (decide (a ≤ j)) then (((dQ bL g d ((IntKind.i64.wrap (d + b))) a f2)).bind fun i => (eL j b f2 h i a ((IntKind.i64.wrap (a + ((IntKind.i64.wrap (2 * b)))))))) else some (g, d))
noncomputable def eo (k : Int) (f2 : ((Formula × Formula)) → Option Int) : Nat → (List Formula) → Int → Option (List Formula)
  | 0, _, _ => none
  | i + 1, d, a => (if (decide (a < k)) then ((eL k a f2 bL d 0 ((IntKind.i64.wrap (2 * a))) : Option (((List Formula) × Int))).bind fun (g, b) => (((if (decide (((IntKind.i64.wrap (b + a))) < k)) then (((dQ bL g b ((IntKind.i64.wrap (b + a))) k f2)).bind fun j => some j) else some g) : Option (List Formula)).bind fun h => (eo k f2 i h ((IntKind.i64.wrap (a * 2)))))) else some d)
noncomputable def er (j : Int) (f2 : ((Formula × Formula)) → Option Int) : Nat → (List Formula) → Int → Int → Option (List Formula)
  | 0, _, _, _ => none
  | n123 + 1, d, i, a => (if (decide (a ≤ j)) then (((fE d i a f2)).bind fun g => (er j f2 n123 g a ((IntKind.i64.wrap (a + 20))))) else (((fE d i j f2)).bind fun h => ((eo j f2 bL h 20 : Option (List Formula)).bind fun b => some b)))
noncomputable def kp (a0 : List Formula) (a : Int) (f2 : ((Formula × Formula)) → Option Int) : Option (List Formula) :=
  er a f2 bL a0 0 20
noncomputable def iq (a0 : List Formula) (f1 : ((Formula × Formula)) → Option Int) : Option (List Formula) :=
  (((kp a0 ((a0.length : Int)) f1)).bind fun a => some a)
noncomputable def jP (rec : (List Int) → Formula → Option (List Int)) : List Formula → (List Int) → Option (List Int)
  | [], a => some a
  | g :: b, a => (((rec a g)).bind fun d => (jP rec b d))
noncomputable def oG (rec : (List Int) → Formula → Option (List Int)) (b : List Int) (a : Formula) : Option (List Int) :=
  (((gA b a.Op)).bind fun i => (if (a.Op == 1) then (((jw i.2 a.aA)).bind fun h => some h.2) else (((if (a.Op == 4) then (((gA i.2 a.K)).bind fun d => some d.2) else some i.2) : Option (List Int)).bind fun g => (((gA g ((a.Kids.length : Int)))).bind fun j => jP rec a.Kids j.2))))
noncomputable def jf : Nat → (List Int) → Formula → Option (List Int)
  | 0 => fun _ _ => none
  | n + 1 => oG (jf n)
noncomputable def pK (a : List Int) (b : Formula) : Option ((Bool × (List Int))) :=
  (((ku b)).bind fun d => (if (!d) then some (false, a) else (((jf bL a b)).bind fun g => some (true, g))))
noncomputable def mH (a0 : Formula) : Option (List Int) :=
  (((pK ([]) a0)).bind fun b => (((mZ b.2)).bind fun a => some a))
noncomputable def mG (a0 g : Formula) : Option Int :=
  (((mH a0)).bind fun a => (((mH g)).bind fun b => (((pN a b)).bind fun d => some d)))
noncomputable def ol (a0 : List Formula) : Option (List Formula) :=
  (((lG a0)).bind fun b => (((iq b (fun (x : (Formula × Formula)) => mG x.1 x.2))).bind fun a => some a))
noncomputable def eZ (b : Int) (f1 : ((Formula × Formula)) → Option Bool) : Nat → (List Formula) → Int → Int → Option (((List Formula) × Int))
  | 0, _, _, _ => none
  | i + 1, a, d, g => (if (decide (g < (((a.length - (Int.toNat b) : Nat) : Int)))) then (((((dU (a.drop (Int.toNat b)) g)).bind fun l => (((dU (a.drop (Int.toNat b)) ((IntKind.i64.wrap (g - 1))))).bind fun m => (((f1 ((l, m)))).bind fun j => (if (!j) then (((dU (a.drop (Int.toNat b)) g)).bind fun n => (((dU a d)).bind fun p => some (((a.set (Int.toNat d) n)), ((IntKind.i64.wrap (d + 1)))))) else some (a, d))))) : Option (((List Formula) × Int))).bind fun (h, k) => (eZ b f1 i h k ((IntKind.i64.wrap (g + 1))))) else some (a, d))
noncomputable def fe (a0 : List Formula) (f1 : ((Formula × Formula)) → Option Bool) : Nat → Int → Option (List Formula)
  | 0, _ => none
  | g + 1, a => (if (decide (a < ((a0.length : Int)))) then (((dU a0 a)).bind fun i => (((dU a0 ((IntKind.i64.wrap (a - 1))))).bind fun j => (((f1 ((i, j)))).bind fun h => (if h then (((lV (decide (0 ≤ a) && decide (a ≤ (a0.length : Int))))).bind fun _ => ((eZ a f1 bL a0 a 1 : Option (((List Formula) × Int))).bind fun (d, b) => (((lV (decide (0 ≤ b) && decide (b ≤ (d.length : Int))))).bind fun _ => (((lV (decide (0 ≤ b) && decide (b ≤ (((ib d (Int.toNat b) (⟨0, 0, (⟨zS, zS⟩ : aA), []⟩ : Formula))).length : Int))))).bind fun _ => some (((ib d (Int.toNat b) (⟨0, 0, (⟨zS, zS⟩ : aA), []⟩ : Formula))).take (Int.toNat b)))))) else (fe a0 f1 g ((IntKind.i64.wrap (a + 1)))))))) else some a0)
noncomputable def iV (a0 : List Formula) (f1 : ((Formula × Formula)) → Option Bool) : Option (List Formula) :=
  (if (decide (((a0.length : Int)) < 2)) then some a0 else fe a0 f1 bL 1)
noncomputable def dB (h : List Formula) (f2 : ((Formula × Formula)) → Option Bool) : List Formula → Nat → Option Bool
  | [], _ => some true
  | g :: d, i95 => (((dU h ((i95 : Int)))).bind fun b => (((f2 ((g, b)))).bind fun a => (if (!a) then some false else (dB h f2 d (i95 + 1)))))
noncomputable def eY (a0 a : List Formula) (f2 : ((Formula × Formula)) → Option Bool) : Option Bool :=
  (if (((a0.length : Int)) != ((a.length : Int))) then some false else dB a f2 a0 0)
noncomputable def pB (rec : Formula → Formula → Option Bool) (a0 a : Formula) : Option Bool :=
  (((if (a0.Op == a.Op) then some ((a0.K == a.K)) else some false) : Option Bool).bind fun d => (((if d then some ((bB a0.aA a.aA)) else some false) : Option Bool).bind fun g => (((if g then (((eY a0.Kids a.Kids (fun (x : (Formula × Formula)) => rec x.1 x.2))).bind fun b => some b) else some false) : Option Bool).bind fun h => some h)))
noncomputable def gF : Nat → Formula → Formula → Option Bool
  | 0 => fun _ _ => none
  | n + 1 => pB (gF n)
noncomputable def gH (a0 : cM) (d : Int) (a2 : List Formula) : Option ((Formula × cM)) :=
  (((tZ d a2)).bind fun j => (((gz j (fun (x : Formula) => jX x ((IntKind.i64.wrap (5 - d)))))).bind fun g => (if g then some ((⟨(IntKind.i64.wrap (5 - d)), 0, (⟨zS, zS⟩ : aA), []⟩ : Formula), a0) else (((ol j)).bind fun h => (((iV h (fun (x : (Formula × Formula)) => gF bL x.1 x.2))).bind fun a => (((if (decide (((a.length : Int)) > 64)) then some ((⟨12⟩ : cM)) else some a0) : Option cM).bind fun b => (if (((a.length : Int)) == 1) then (((dU a 0)).bind fun i => some (i, b)) else some ((⟨d, 0, (⟨zS, zS⟩ : aA), a⟩ : Formula), b))))))))
noncomputable def eW (a0 : cM) : List Formula → Int → (List Formula) → Option ((Formula × cM))
  | [], b, a => (if (decide (b ≤ 0)) then (rV.bind fun m => some (m, a0)) else (if (decide (b > ((a.length : Int)))) then (tj.bind fun n => some (n, a0)) else (if (b == ((a.length : Int))) then (((gH a0 2 a)).bind fun h => some (h.1, h.2)) else (if (b == 1) then (((gH a0 3 a)).bind fun i => some (i.1, i.2)) else (((ol a)).bind fun p => some ((⟨4, b, (⟨zS, zS⟩ : aA), p⟩ : Formula), a0))))))
  | g :: d, b, a => (((mV g 2)).bind fun k => (if k then (eW a0 d ((IntKind.i64.wrap (b - 1))) a) else (((mV g 3)).bind fun l => (if (!l) then (((eT 72 a ([g]))).bind fun j => (eW a0 d b j)) else (eW a0 d b a)))))
noncomputable def jY (a0 : cM) (a : Int) (a2 : List Formula) : Option ((Formula × cM)) :=
  eW a0 a2 a ([])
noncomputable def gm (rec : cM → Formula → Option ((Formula × cM))) (l : Formula) : List Formula → (List Formula) → cM → Option ((Formula × cM))
  | [], a, b => (if (l.Op == 4) then (((jY b l.K a)).bind fun g => some (g.1, g.2)) else (((gH b l.Op a)).bind fun h => some (h.1, h.2)))
  | k :: i, a, b => (((rec b k)).bind fun d => (((eT 72 a ([d.1]))).bind fun j => (gm rec l i j d.2)))
noncomputable def kT (rec : cM → Formula → Option ((Formula × cM))) (a0 : cM) (a : Formula) : Option ((Formula × cM)) :=
  (if (a.Op == 1) then some (a, a0) else gm rec a a.Kids ([]) a0)
noncomputable def fK : Nat → cM → Formula → Option ((Formula × cM))
  | 0 => fun _ _ => none
  | n + 1 => kT (fK n)
noncomputable def qS (a0 : Formula) : Option ((Formula × Int)) :=
  (((ku a0)).bind fun g => (if (!g) then some ((⟨0, 0, (⟨zS, zS⟩ : aA), []⟩ : Formula), 11) else (((fK bL ((⟨0⟩ : cM)) a0)).bind fun a => (((if (a.2.e != 0) then some true else (((ku a.1)).bind fun b => some ((!b)))) : Option Bool).bind fun d => (if d then some ((⟨0, 0, (⟨zS, zS⟩ : aA), []⟩ : Formula), 12) else some (a.1, 0))))))
noncomputable def rb (a0 b : Formula) : Option ((Formula × Int)) :=
  (((qS ((⟨2, 0, (⟨zS, zS⟩ : aA), [a0, b]⟩ : Formula)))).bind fun a => some (a.1, a.2))
noncomputable def mX  : List Formula → Int → Int → Int → aA → (List Formula) → Option ((Int × Int × Int × aA × (List Formula)))
  | [], d, g, h, i, b => some (d, g, h, i, b)
  | k :: j, d, g, h, i, b => (if (d != 0) then some (d, g, h, i, b) else (((rb ((⟨g, h, i, b⟩ : Formula)) k)).bind fun a => (mX j a.2 ((a.1).Op) ((a.1).K) ((a.1).aA) ((a.1).Kids))))
noncomputable def pt (a0 : List Formula) : Option ((Formula × Int)) :=
  (((dU a0 0)).bind fun x6 => (((qS x6)).bind fun a => (((lV (decide (0 ≤ 1) && decide (1 ≤ (a0.length : Int))))).bind fun _ => ((mX ((a0.drop (Int.toNat 1))) a.2 ((a.1).Op) ((a.1).K) ((a.1).aA) ((a.1).Kids) : Option ((Int × Int × Int × aA × (List Formula)))).bind fun (b, g, h, i, d) => (if (b != 0) then some ((⟨0, 0, (⟨zS, zS⟩ : aA), []⟩ : Formula), b) else some ((⟨g, h, i, d⟩ : Formula), 0))))))
noncomputable def nA  : List gL → (List Formula) → Option ((Formula × Int))
  | [], a => (((pt a)).bind fun b => some (b.1, b.2))
  | h :: d, a => (((eT 72 a ([h.aI]))).bind fun g => (nA d g))
noncomputable def uw (a0 : cR) (d : aB) : Option ((Formula × Int)) :=
  (((sF a0 d)).bind fun a => (if (!a.2) then some ((⟨0, 0, (⟨zS, zS⟩ : aA), []⟩ : Formula), 42) else (((rn a0 d)).bind fun b => nA b ([(a.1).aI]))))
noncomputable def iJ (rec : Formula → (aA → Option Bool) → Option Bool) (f1 : aA → Option Bool) (a0 : Formula) : List Formula → Int → Option Bool
  | [], a => (if (a0.Op == 2) then some (a == ((a0.Kids.length : Int))) else (if (a0.Op == 3) then some (decide (a > 0)) else some (decide (a ≥ a0.K))))
  | g :: b, a => (((rec g f1)).bind fun d => (if d then (iJ rec f1 a0 b ((IntKind.i64.wrap (a + 1)))) else (iJ rec f1 a0 b a)))
noncomputable def oF (rec : Formula → (aA → Option Bool) → Option Bool) (a0 : Formula) (f1 : aA → Option Bool) : Option Bool :=
  (if (a0.Op == 1) then (((f1 a0.aA)).bind fun a => some a) else iJ rec f1 a0 a0.Kids 0)
noncomputable def jj : Nat → Formula → (aA → Option Bool) → Option Bool
  | 0 => fun _ _ => none
  | n + 1 => oF (jj n)
noncomputable def qu (a0 : Formula) (f1 : aA → Option Bool) : Option Bool :=
  (((ku a0)).bind fun d => (((if d then (((jj bL a0 f1)).bind fun a => some a) else some false) : Option Bool).bind fun b => some b))
noncomputable def ji (a0 : aA) (h : List (aA × (List (ByteArray × Bool)))) (a : List aB) (g : List (aA × (List aB))) (b : List (ByteArray × (List aB))) (d : List aV) (i : Int) (c1 : ByteArray) : Option Bool :=
  (((oP h a g b d i a0 c1)).bind fun j => some j)
noncomputable def ky (a0 : cR) (d : ((List (aA × (List (ByteArray × Bool)))) × (List aB) × (List (aA × (List aB))) × (List (ByteArray × (List aB))) × (List aV) × Int × ByteArray)) : List cI → (List aB) → Option (List aB)
  | [], a => (((nR a)).bind fun j => some j)
  | g :: b, a => (((uw a0 g.Signed.aB)).bind fun r417 => (((if (r417.2 == 0) then (((qu r417.1 (fun (x : aA) => ji x d.1 d.2.1 d.2.2.1 d.2.2.2.1 d.2.2.2.2.1 d.2.2.2.2.2.1 d.2.2.2.2.2.2))).bind fun i => some i) else some false) : Option Bool).bind fun k => (if k then (((eT 136 a ([g.Signed.aB]))).bind fun h => (ky a0 d b h)) else (ky a0 d b a))))
noncomputable def jv (a0 : cR) (a : List aB) (a2 : ByteArray) : Option (List aB) :=
  (((ov a a2)).bind fun b => ky a0 b a0.aT ([]))
noncomputable def pD (a0 : aB) (a : List aB) : Option Bool :=
  (((kk a a0)).bind fun b => some (!b))
noncomputable def qe (a0 b : List aB) : Option (List aB) :=
  (((iz a0)).bind fun d => (((gI d (fun (x : aB) => pD x b))).bind fun a => some a))
noncomputable def gT (a0 : fL) : Nat → (List aB) → (List aB) → Option (((List aB) × (List aB)))
  | 0, _, _ => none
  | h + 1, a, b => (((jv a0.aC b a0.Client.Name)).bind fun i => (((qe a i)).bind fun d => (((jv a0.Client a a0.aC.Name)).bind fun r400 => (((qe b r400)).bind fun g => (((if (((d.length : Int)) == ((a.length : Int))) then some ((((g.length : Int)) == ((b.length : Int)))) else some false) : Option Bool).bind fun j => (if j then some (a, b) else (gT a0 h d g)))))))
noncomputable def iS (a0 : fL) : Option (((List aB) × (List aB))) :=
  (((nU a0.aC)).bind fun a => (((nU a0.Client)).bind fun b => gT a0 bL a b))
noncomputable def iX (a0 k : cR) : Nat → (List aB) → (List aB) → Int → Option (((List aB) × (List aB) × Int))
  | 0, _, _, _ => none
  | i + 1, a, b, h => (((jv a0 b k.Name)).bind fun d => (((jv k a a0.Name)).bind fun g => (((if (((d.length : Int)) == ((a.length : Int))) then some ((((g.length : Int)) == ((b.length : Int)))) else some false) : Option Bool).bind fun j => (if j then some (a, b, h) else (iX a0 k i d g ((IntKind.i64.wrap (h + 1))))))))
noncomputable def qX (a0 a : cR) : Option (((List aB) × (List aB) × Int)) :=
  iX a0 a bL ([]) ([]) 0
noncomputable def oH (a0 : aB) (a : List aB) : Option Bool :=
  (((kk a a0)).bind fun b => some b)
noncomputable def pg (a0 b : List aB) : Option (List aB) :=
  (((iz a0)).bind fun d => (((gI d (fun (x : aB) => oH x b))).bind fun a => some a))
noncomputable def kK (a0 : fL) : Option (((List aB) × (List aB))) :=
  (((iS a0)).bind fun a => (((qX a0.aC a0.Client)).bind fun b => (((pg a.1 b.1)).bind fun d => (((pg a.2 b.2.1)).bind fun g => some (d, g)))))
noncomputable def iL (a0 : cI) (a : aB) : Option Bool :=
  some (bT a0.Signed.aB a)
noncomputable def jr (a0 : List cI) : Option (List cI) :=
  (((eT 232 ([]) a0)).bind fun a => some a)
noncomputable def jD (a0 : fL) (i : Int) (a2 : aB) : Option ((fL × Bool)) :=
  (((if (decide (i < 0)) then some true else some ((decide (i ≥ 2)))) : Option Bool).bind fun j => (if j then some (a0, false) else (if (i == 0) then (((fp a0.aC.aT (fun (x : cI) => iL x a2))).bind fun a => (if (decide (a < 0)) then some (a0, false) else (((jr a0.aC.aT)).bind fun d => (((dU d a)).bind fun k => some ((⟨(⟨a0.aC.Name, (d.set (Int.toNat a) ((⟨k.Signed, (⟨2, 0, (⟨zS, zS⟩ : aA), []⟩ : Formula)⟩ : cI))), a0.aC.bP⟩ : cR), (⟨a0.Client.Name, a0.Client.aT, a0.Client.bP⟩ : cR), (⟨a0.Formula.Op, a0.Formula.K, a0.Formula.aA, a0.Formula.Kids⟩ : Formula), a0.mo, a0.fh, a0.gl, a0.jE, a0.ij, a0.Keys⟩ : fL), true))))) else (if (i == 1) then (((fp a0.Client.aT (fun (x : cI) => iL x a2))).bind fun b => (if (decide (b < 0)) then some (a0, false) else (((jr a0.Client.aT)).bind fun g => (((dU g b)).bind fun h => some ((⟨(⟨a0.aC.Name, a0.aC.aT, a0.aC.bP⟩ : cR), (⟨a0.Client.Name, (g.set (Int.toNat b) ((⟨h.Signed, (⟨2, 0, (⟨zS, zS⟩ : aA), []⟩ : Formula)⟩ : cI))), a0.Client.bP⟩ : cR), (⟨a0.Formula.Op, a0.Formula.K, a0.Formula.aA, a0.Formula.Kids⟩ : Formula), a0.mo, a0.fh, a0.gl, a0.jE, a0.ij, a0.Keys⟩ : fL), true))))) else none))))
noncomputable def jz (a0 : fL) : Option Bool :=
  (((kK a0)).bind fun a => some (((IntKind.i64.wrap (((a.1.length : Int)) + ((a.2.length : Int))))) == 0))
noncomputable def pn  : Option Bool :=
  (((((gU ((⟨1, (⟨(⟨#[120]⟩ : ByteArray), (⟨#[122]⟩ : ByteArray)⟩ : aA), (⟨#[111, 119, 110]⟩ : ByteArray), (⟨zS, zS⟩ : aA), (⟨zS, zS⟩ : aA), zS⟩ : aB)) ((⟨(⟨#[120]⟩ : ByteArray), (⟨#[121]⟩ : ByteArray)⟩ : aA)))).bind fun A => (((gU ((⟨1, (⟨(⟨#[120]⟩ : ByteArray), (⟨#[121]⟩ : ByteArray)⟩ : aA), (⟨#[99, 108, 105]⟩ : ByteArray), (⟨zS, zS⟩ : aA), (⟨zS, zS⟩ : aA), zS⟩ : aB)) ((⟨(⟨#[120]⟩ : ByteArray), (⟨#[122]⟩ : ByteArray)⟩ : aA)))).bind fun D => some (((⟨#[111, 119, 110]⟩ : ByteArray)), A, ([]), ((⟨#[99, 108, 105]⟩ : ByteArray)), D, ([]), 0, 0, ((⟨zS, zS⟩ : aA)), ([]), 0, ((⟨0, 0⟩ : rM)), 0, 0, 0, ([]), zS, ([]), ([]), zS, ([]), ([]), 0, 0, ((⟨zS, zS⟩ : aA)), ([]), 0, ((⟨0, 0⟩ : rM)), 0, 0, 0, ([])))) : Option ((ByteArray × (List cI) × (List gL) × ByteArray × (List cI) × (List gL) × Int × Int × aA × (List Formula) × Int × rM × Int × Int × Int × (List Key) × ByteArray × (List cI) × (List gL) × ByteArray × (List cI) × (List gL) × Int × Int × aA × (List Formula) × Int × rM × Int × Int × Int × (List Key)))).bind fun (j, a, b, k, d, g, l, m, n, h, p, q, r, s, t, i, W, O, P, Y, Q, R, Z, a1, a6, T, a7, a8, aa, ab, ad, U) => (((kK ((⟨(⟨j, a, b⟩ : cR), (⟨k, d, g⟩ : cR), (⟨l, m, n, h⟩ : Formula), p, q, r, s, t, i⟩ : fL)))).bind fun u => (((iS ((⟨(⟨j, a, b⟩ : cR), (⟨k, d, g⟩ : cR), (⟨l, m, n, h⟩ : Formula), p, q, r, s, t, i⟩ : fL)))).bind fun v => (((jD ((⟨(⟨j, a, b⟩ : cR), (⟨k, d, g⟩ : cR), (⟨l, m, n, h⟩ : Formula), p, q, r, s, t, i⟩ : fL)) 1 ((⟨1, (⟨(⟨#[120]⟩ : ByteArray), (⟨#[121]⟩ : ByteArray)⟩ : aA), (⟨#[99, 108, 105]⟩ : ByteArray), (⟨zS, zS⟩ : aA), (⟨zS, zS⟩ : aA), zS⟩ : aB)))).bind fun w => (((jD ((⟨(⟨j, a, b⟩ : cR), (⟨k, d, g⟩ : cR), (⟨l, m, n, h⟩ : Formula), p, q, r, s, t, i⟩ : fL)) 0 ((⟨1, (⟨(⟨#[120]⟩ : ByteArray), (⟨#[121]⟩ : ByteArray)⟩ : aA), (⟨#[99, 108, 105]⟩ : ByteArray), (⟨zS, zS⟩ : aA), (⟨zS, zS⟩ : aA), zS⟩ : aB)))).bind fun x => (((if (((u.1.length : Int)) == 1) then some ((((u.2.length : Int)) == 1)) else some false) : Option Bool).bind fun E => (((if E then some ((((v.1.length : Int)) == 1)) else some false) : Option Bool).bind fun F => (((if F then some ((((v.2.length : Int)) == 1)) else some false) : Option Bool).bind fun G => (((if G then (((jz ((⟨(⟨j, a, b⟩ : cR), (⟨k, d, g⟩ : cR), (⟨l, m, n, h⟩ : Formula), p, q, r, s, t, i⟩ : fL)))).bind fun z => some ((!z))) else some false) : Option Bool).bind fun I => (((if I then some w.2 else some false) : Option Bool).bind fun J => (((if J then some ((!x.2)) else some false) : Option Bool).bind fun L => (((if L then (((jz w.1)).bind fun y => some y) else some false) : Option Bool).bind fun M => some M))))))))))))
noncomputable def lC (rec : (List Formula) → Option Int) : List Formula → Int → Option Int
  | [], b => some b
  | a :: g, b => (((rec a.Kids)).bind fun d => (lC rec g ((IntKind.i64.wrap (b + ((IntKind.i64.wrap (((IntKind.i64.wrap (1 + ((IntKind.i64.wrap (Int.tdiv ((IntKind.i64.wrap (((a.aA.aC.size : Int)) + ((a.aA.aJ.size : Int))))) 16)))))) + d))))))))
noncomputable def pW (rec : (List Formula) → Option Int) (a0 : List Formula) : Option Int :=
  lC rec a0 0
noncomputable def gZ : Nat → (List Formula) → Option Int
  | 0 => fun _ => none
  | n + 1 => pW (gZ n)
noncomputable def lB  : List gL → Int → Option Int
  | [], b => some b
  | a :: d, b => (((gZ bL ([a.aI]))).bind fun g => (((pc a.eS)).bind fun h => (lB d ((IntKind.i64.wrap (b + ((IntKind.i64.wrap (((IntKind.i64.wrap (((IntKind.i64.wrap (((a.aA.aC.size : Int)) + ((a.aA.aJ.size : Int))))) + ((IntKind.i64.wrap (20 * g)))))) + h)))))))))
noncomputable def kZ (a0 : cR) : List cI → Int → Option Int
  | [], a => ((lB a0.bP a : Option Int).bind fun d => some d)
  | b :: g, a => (((((nC ([]) ([b.Signed]))).bind fun j => some (j, ([b.aI]))) : Option ((Int × (List Formula)))).bind fun (k, h) => (((gZ bL h)).bind fun i => (kZ a0 g ((IntKind.i64.wrap (a + ((IntKind.i64.wrap (k + ((IntKind.i64.wrap (20 * i))))))))))))
noncomputable def pb (a0 : cR) : Option Int :=
  kZ a0 a0.aT ((a0.Name.size : Int))
noncomputable def rf (a0 : fL) : Option Int :=
  (((((pb a0.aC)).bind fun g => (((pb a0.Client)).bind fun h => some (((IntKind.i64.wrap (g + h))), ([a0.Formula])))) : Option ((Int × (List Formula)))).bind fun (i, a) => (((gZ bL a)).bind fun b => (((nC a0.Keys ([]))).bind fun d => some (IntKind.i64.wrap (((IntKind.i64.wrap (i + ((IntKind.i64.wrap (20 * b)))))) + d)))))
noncomputable def mT  : List cI → (List aB) → Option (List aB)
  | [], a => (((nT a)).bind fun d => some d)
  | h :: g, a => (((eT 136 a ([h.Signed.aB]))).bind fun b => (mT g b))
noncomputable def qU (a0 : cR) : Option (List aB) :=
  mT a0.aT ([])
noncomputable def jG (h : ByteArray) : List aV → (List aA) → Option (List aA)
  | [], a => some a
  | g :: b, a => (if (dA g.cH h) then (((eT 32 a ([g.aA]))).bind fun d => (jG h b d)) else (jG h b a))
noncomputable def oU (a0 : List aV) (a : ByteArray) : Option (List aA) :=
  jG a a0 ([])
noncomputable def lu (rec : Formula → Option Int) : List Formula → Int → Option Int
  | [], a => some a
  | g :: d, a => (((rec g)).bind fun b => (lu rec d ((IntKind.i64.wrap (a + b)))))
noncomputable def pV (rec : Formula → Option Int) (a0 : Formula) : Option Int :=
  lu rec a0.Kids 1
noncomputable def kG : Nat → Formula → Option Int
  | 0 => fun _ => none
  | n + 1 => pV (kG n)
noncomputable def ma (rec : Formula → Option Int) : List Formula → Int → Option Int
  | [], a => some (IntKind.i64.wrap (a + 1))
  | g :: d, a => (((rec g)).bind fun b => (ma rec d ((if b > a then b else a))))
noncomputable def qI (rec : Formula → Option Int) (a0 : Formula) : Option Int :=
  ma rec a0.Kids 0
noncomputable def lT : Nat → Formula → Option Int
  | 0 => fun _ => none
  | n + 1 => qI (lT n)
noncomputable def lY (rec : Formula → Option Bool) : List Formula → Option Bool
  | [] => some true
  | d :: a => (((rec d)).bind fun b => (if (!b) then some false else (lY rec a)))
noncomputable def qK (rec : Formula → Option Bool) (a0 : Formula) : Option Bool :=
  (if (a0.Op == 1) then (((mj a0.aA)).bind fun n => (((if n then some ((((a0.Kids.length : Int)) == 0)) else some false) : Option Bool).bind fun h => (((if h then some ((a0.K == 0)) else some false) : Option Bool).bind fun i => some i))) else (((if (decide (a0.Op < 1)) then some true else some ((decide (a0.Op > 4)))) : Option Bool).bind fun j => (((if j then some true else some ((!(bB a0.aA ((⟨zS, zS⟩ : aA)))))) : Option Bool).bind fun k => (((if k then some true else some ((decide (((a0.Kids.length : Int)) > 8)))) : Option Bool).bind fun l => (if l then some false else (((if (decide (a0.Op < 4)) then some ((a0.K != 0)) else some false) : Option Bool).bind fun m => (((if m then some true else (((if (a0.Op == 4) then (((if (decide (((a0.Kids.length : Int)) < 1)) then some true else some ((decide (a0.K < 0)))) : Option Bool).bind fun d => (((if d then some true else some ((decide (a0.K > ((a0.Kids.length : Int)))))) : Option Bool).bind fun g => some g)) else some false) : Option Bool).bind fun b => some b)) : Option Bool).bind fun a => (if a then some false else lY rec a0.Kids))))))))
noncomputable def lL : Nat → Formula → Option Bool
  | 0 => fun _ => none
  | n + 1 => qK (lL n)
noncomputable def kI (a0 : Formula) : Option Bool :=
  (((kG bL a0)).bind fun h => (((if (decide (h ≤ 64)) then (((lT bL a0)).bind fun b => some ((decide (b ≤ 6)))) else some false) : Option Bool).bind fun d => (((if d then (((lL bL a0)).bind fun a => some a) else some false) : Option Bool).bind fun g => some g)))
noncomputable def od (a0 : Formula) (a : Int) : Option Bool :=
  (((if (a0.Op == a) then some ((((a0.Kids.length : Int)) == 0)) else some false) : Option Bool).bind fun x6 => some x6)
noncomputable def kV (rec : Formula → Option ByteArray) : List Formula → ByteArray → Option ByteArray
  | [], a => some a
  | h :: g, a => (((rec h)).bind fun b => (((pY a b)).bind fun d => (kV rec g d)))
noncomputable def pP (rec : Formula → Option ByteArray) (a0 : Formula) : Option ByteArray :=
  (((jR a0.Op)).bind fun g => (if (a0.Op == 1) then (((mw a0.aA)).bind fun k => (((pY g k)).bind fun h => some h)) else (((if (a0.Op == 4) then (((jR a0.K)).bind fun a => (((pY g a)).bind fun b => some b)) else some g) : Option ByteArray).bind fun j => (((jR ((a0.Kids.length : Int)))).bind fun d => (((pY j d)).bind fun i => kV rec a0.Kids i)))))
noncomputable def iU : Nat → Formula → Option ByteArray
  | 0 => fun _ => none
  | n + 1 => pP (iU n)
noncomputable def pL (a0 j : Formula) : Option Int :=
  (((((kI a0)).bind fun h => (if h then (((iU bL a0)).bind fun i => some i) else some zS)) : Option ByteArray).bind fun a => (((((kI j)).bind fun d => (if d then (((iU bL j)).bind fun g => some g) else some zS)) : Option ByteArray).bind fun b => (if (jB a b) then some (-1) else (if (!(jB a b || dA a b)) then some 1 else some 0))))
noncomputable def lX (h : Formula) (rec : Formula → Formula → Option Bool) : List Formula → Nat → Option Bool
  | [], _ => some true
  | d :: a, i182 => (((dU h.Kids ((i182 : Int)))).bind fun g => (((rec d g)).bind fun b => (if (!b) then some false else (lX h rec a (i182 + 1)))))
noncomputable def qL (rec : Formula → Formula → Option Bool) (a0 a : Formula) : Option Bool :=
  (((if (a0.Op != a.Op) then some true else some ((a0.K != a.K))) : Option Bool).bind fun b => (((if b then some true else some ((!(bB a0.aA a.aA)))) : Option Bool).bind fun d => (((if d then some true else some ((((a0.Kids.length : Int)) != ((a.Kids.length : Int))))) : Option Bool).bind fun g => (if g then some false else lX a rec a0.Kids 0))))
noncomputable def ki : Nat → Formula → Formula → Option Bool
  | 0 => fun _ _ => none
  | n + 1 => qL (ki n)
noncomputable def jb (b : List Formula) (d : Formula) : Nat → Int → Option Int
  | 0, _ => none
  | g + 1, a => (((if (decide (a > 0)) then (((dU b ((IntKind.i64.wrap (a - 1))))).bind fun j => (((pL j d)).bind fun h => some ((decide (h > 0))))) else some false) : Option Bool).bind fun i => (if i then (jb b d g ((IntKind.i64.wrap (a - 1)))) else some a))
noncomputable def eU (p : Bool) : List Formula → (List Formula) → Option (List Formula)
  | [], a => some a
  | d :: g, a => ((jb a d bL ((a.length : Int)) : Option Int).bind fun b => (((if p then some ((decide (b > 0))) else some false) : Option Bool).bind fun l => (((if l then (((dU a ((IntKind.i64.wrap (b - 1))))).bind fun n => (((ki bL n d)).bind fun k => some k)) else some false) : Option Bool).bind fun m => (if m then (eU p g a) else (((lV (decide (0 ≤ b) && decide (b ≤ (a.length : Int))))).bind fun _ => (((eT 72 ([]) ((a.take (Int.toNat b))))).bind fun h => (((eT 72 h ([d]))).bind fun i => (((lV (decide (0 ≤ b) && decide (b ≤ (a.length : Int))))).bind fun _ => (((eT 72 i ((a.drop (Int.toNat b))))).bind fun j => (eU p g j))))))))))
noncomputable def oh (a0 : List Formula) (a : Bool) : Option (List Formula) :=
  eU a a0 ([])
noncomputable def iK (g : Int) (a0 : cW) : List Formula → Option ((((Formula × cW)) ⊕ Unit))
  | [] => some (Sum.inr ())
  | d :: a => (((od d ((IntKind.i64.wrap (5 - g))))).bind fun b => (if b then some (Sum.inl ((⟨(IntKind.i64.wrap (5 - g)), 0, (⟨zS, zS⟩ : aA), []⟩ : Formula), a0)) else (iK g a0 a)))
noncomputable def fH (i : Int) (a0 : cW) : List Formula → (List Formula) → Option ((Formula × cW))
  | [], a => ((iK i a0 a : Option ((((Formula × cW)) ⊕ Unit))).bind fun s => match s with | .inl l => some l | .inr _ => (((oh a true)).bind fun b => (((if a0.IU then some true else some ((decide (((b.length : Int)) > 64)))) : Option Bool).bind fun h => (if (((b.length : Int)) == 1) then (((dU b 0)).bind fun n => some (n, (⟨h⟩ : cW))) else some ((⟨i, 0, (⟨zS, zS⟩ : aA), b⟩ : Formula), (⟨h⟩ : cW))))))
  | d :: g, a => (if (d.Op == i) then (((eT 72 a d.Kids)).bind fun j => (fH i a0 g j)) else (((od d ((IntKind.i64.wrap (5 - i))))).bind fun m => (if m then some ((⟨(IntKind.i64.wrap (5 - i)), 0, (⟨zS, zS⟩ : aA), []⟩ : Formula), a0) else (((eT 72 a ([d]))).bind fun k => (fH i a0 g k)))))
noncomputable def iF (a0 : cW) (a : Int) (a2 : List Formula) : Option ((Formula × cW)) :=
  fH a a0 a2 ([])
noncomputable def fz  : List Formula → Int → (List Formula) → Option ((Int × (List Formula)))
  | [], b, a => some (b, a)
  | g :: d, b, a => (((od g 2)).bind fun i => (if i then (fz d ((IntKind.i64.wrap (b - 1))) a) else (((od g 3)).bind fun j => (if (!j) then (((eT 72 a ([g]))).bind fun h => (fz d b h)) else (fz d b a)))))
noncomputable def fQ (rec : cW → Formula → Option ((Formula × cW))) (q : Formula) : List Formula → (List Formula) → cW → Option ((Formula × cW))
  | [], g, a => (if (decide (q.Op < 4)) then (((iF a q.Op g)).bind fun i => some (i.1, i.2)) else ((fz g q.K ([]) : Option ((Int × (List Formula)))).bind fun (d, b) => (if (decide (d ≤ 0)) then some ((⟨2, 0, (⟨zS, zS⟩ : aA), []⟩ : Formula), a) else (if (decide (d > ((b.length : Int)))) then some ((⟨3, 0, (⟨zS, zS⟩ : aA), []⟩ : Formula), a) else (if (d == ((b.length : Int))) then (((iF a 2 b)).bind fun j => some (j.1, j.2)) else (if (d == 1) then (((iF a 3 b)).bind fun k => some (k.1, k.2)) else (((oh b false)).bind fun n => some ((⟨4, d, (⟨zS, zS⟩ : aA), n⟩ : Formula), a))))))))
  | p :: l, g, a => (((rec a p)).bind fun h => (((eT 72 g ([h.1]))).bind fun m => (fQ rec q l m h.2)))
noncomputable def lM (rec : cW → Formula → Option ((Formula × cW))) (a0 : cW) (a : Formula) : Option ((Formula × cW)) :=
  (if (a.Op == 1) then some (a, a0) else fQ rec a a.Kids ([]) a0)
noncomputable def fF : Nat → cW → Formula → Option ((Formula × cW))
  | 0 => fun _ _ => none
  | n + 1 => lM (fF n)
noncomputable def sv (a0 : Formula) : Option ((Formula × Int)) :=
  (((kI a0)).bind fun g => (if (!g) then some ((⟨0, 0, (⟨zS, zS⟩ : aA), []⟩ : Formula), 11) else (((fF bL ((⟨false⟩ : cW)) a0)).bind fun a => (((if a.2.IU then some true else (((kI a.1)).bind fun b => some ((!b)))) : Option Bool).bind fun d => (if d then some ((⟨0, 0, (⟨zS, zS⟩ : aA), []⟩ : Formula), 12) else some (a.1, 0))))))
noncomputable def mz (n : aB) : List gL → Int → Int → Int → aA → (List Formula) → Option ((Int × Int × Int × aA × (List Formula)))
  | [], d, g, h, i, b => some (d, g, h, i, b)
  | k :: j, d, g, h, i, b => (((if (d == 0) then (((pw k.eS n)).bind fun l => some l) else some false) : Option Bool).bind fun m => (if m then (((sv ((⟨2, 0, (⟨zS, zS⟩ : aA), [(⟨g, h, i, b⟩ : Formula), k.aI]⟩ : Formula)))).bind fun a => (mz n j a.2 ((a.1).Op) ((a.1).K) ((a.1).aA) ((a.1).Kids))) else (mz n j d g h i b)))
noncomputable def pd (l : aB) (a0 : cR) : List cI → Option ((Formula × Int))
  | [] => some ((⟨0, 0, (⟨zS, zS⟩ : aA), []⟩ : Formula), 42)
  | b :: g => (if (!(bT b.Signed.aB l)) then (pd l a0 g) else (((sv b.aI)).bind fun a => ((mz l a0.bP a.2 ((a.1).Op) ((a.1).K) ((a.1).aA) ((a.1).Kids) : Option ((Int × Int × Int × aA × (List Formula)))).bind fun (d, i, j, k, h) => (if (d != 0) then some ((⟨0, 0, (⟨zS, zS⟩ : aA), []⟩ : Formula), d) else some ((⟨i, j, k, h⟩ : Formula), 0)))))
noncomputable def ux (a0 : cR) (a : aB) : Option ((Formula × Int)) :=
  pd a a0 a0.aT
noncomputable def qo (d : aA) : List aA → Option Bool
  | [] => some false
  | b :: a => (if (bB b d) then some true else (qo d a))
noncomputable def tp (a0 : List aA) (a : aA) : Option Bool :=
  qo a a0
noncomputable def kx (rec : Formula → (List aA) → Option Bool) (g : List aA) (a0 : Formula) : List Formula → Int → Option Bool
  | [], a => (if (a0.Op == 2) then some (a == ((a0.Kids.length : Int))) else (if (a0.Op == 3) then some (decide (a > 0)) else some (decide (a ≥ a0.K))))
  | h :: b, a => (((rec h g)).bind fun d => (if d then (kx rec g a0 b ((IntKind.i64.wrap (a + 1)))) else (kx rec g a0 b a)))
noncomputable def qH (rec : Formula → (List aA) → Option Bool) (a0 : Formula) (a : List aA) : Option Bool :=
  (if (a0.Op == 1) then (((tp a a0.aA)).bind fun b => some b) else kx rec a a0 a0.Kids 0)
noncomputable def lR : Nat → Formula → (List aA) → Option Bool
  | 0 => fun _ _ => none
  | n + 1 => qH (lR n)
noncomputable def kw (a0 : cR) (h : List aA) : List cI → (List aB) → Option (List aB)
  | [], a => (((nT a)).bind fun k => some k)
  | g :: b, a => (((ux a0 g.Signed.aB)).bind fun d => (((if (d.2 == 0) then (((lR bL d.1 h)).bind fun j => some j) else some false) : Option Bool).bind fun l => (if l then (((eT 136 a ([g.Signed.aB]))).bind fun i => (kw a0 h b i)) else (kw a0 h b a))))
noncomputable def nl (a0 : cR) (b : List aB) (a2 : ByteArray) : Option (List aB) :=
  (((qm b)).bind fun d => (((oU d a2)).bind fun a => kw a0 a a0.aT ([])))
noncomputable def kq (i : List aB) : List aB → (List aB) → Option (List aB)
  | [], a => some a
  | h :: b, a => (((pw i h)).bind fun g => (if g then (((eT 136 a ([h]))).bind fun d => (kq i b d)) else (kq i b a)))
noncomputable def qf (a0 a : List aB) : Option (List aB) :=
  kq a a0 ([])
noncomputable def jK (a0 : fL) : Nat → (List aB) → (List aB) → Option (((List aB) × (List aB)))
  | 0, _, _ => none
  | h + 1, a, b => (((nl a0.aC b a0.Client.Name)).bind fun r417 => (((qf a r417)).bind fun d => (((nl a0.Client a a0.aC.Name)).bind fun i => (((qf b i)).bind fun g => (((fX d a)).bind fun j => (((if j then (((fX g b)).bind fun k => some k) else some false) : Option Bool).bind fun l => (if l then some (d, g) else (jK a0 h d g))))))))
noncomputable def ph (a0 : fL) : Option (((List aB) × (List aB))) :=
  (((qU a0.aC)).bind fun a => (((qU a0.Client)).bind fun b => jK a0 bL a b))
noncomputable def mA (a0 l : cR) : Nat → (List aB) → (List aB) → Int → Option (((List aB) × (List aB) × Int))
  | 0, _, _, _ => none
  | n296 + 1, a, b, h => (((nl a0 b l.Name)).bind fun d => (((nl l a a0.Name)).bind fun g => (((fX d a)).bind fun i => (((if i then (((fX g b)).bind fun j => some j) else some false) : Option Bool).bind fun k => (if k then some (a, b, h) else (mA a0 l n296 d g ((IntKind.i64.wrap (h + 1)))))))))
noncomputable def wY (a0 a : cR) : Option (((List aB) × (List aB) × Int)) :=
  mA a0 a bL ([]) ([]) 0
noncomputable def jL (i : List aB) : List aB → (List aB) → Option (List aB)
  | [], a => some a
  | h :: b, a => (((pw i h)).bind fun g => (if (!g) then (((eT 136 a ([h]))).bind fun d => (jL i b d)) else (jL i b a)))
noncomputable def pk (a0 a : List aB) : Option (List aB) :=
  jL a a0 ([])
noncomputable def rq (a0 : fL) : Option (((List aB) × (List aB))) :=
  (((ph a0)).bind fun a => (((wY a0.aC a0.Client)).bind fun b => (((pk a.1 b.1)).bind fun d => (((pk a.2 b.2.1)).bind fun g => some (d, g)))))
noncomputable def nH (a0 : fL) : Option Bool :=
  (pn.bind fun p => (if (!p) then some false else (((rf a0)).bind fun q => (if (decide (q > 6000)) then some true else (((iS a0)).bind fun i => (((ph a0)).bind fun j => (((kK a0)).bind fun k => (((rq a0)).bind fun a => (((fX i.1 j.1)).bind fun r => (((if r then (((fX i.2 j.2)).bind fun h => some h) else some false) : Option Bool).bind fun s => (((if s then (((fX k.1 a.1)).bind fun g => some g) else some false) : Option Bool).bind fun l => (((if l then (((fX k.2 a.2)).bind fun d => some d) else some false) : Option Bool).bind fun m => (((if m then (((jz a0)).bind fun b => some ((b == ((((IntKind.i64.wrap (((a.1.length : Int)) + ((a.2.length : Int))))) == 0))))) else some false) : Option Bool).bind fun n => some n)))))))))))))
end Go.Proofs.YtmlncblocfcmiaaGreat
