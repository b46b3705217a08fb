/- a part of a proof of StrandTells -/
import Derived.Test.YtjjjihkifgdhgaaGreatRtUh
import Derived.Laws.IdiomStrings
import Derived.Laws.MakeOwn
import Derived.Recover
import Derived.LaidEqlPtr
import Derived.RangeFuncRecord
import Derived.Shelf.SlSortCmp.NoneTotal
import Derived.Shelf.SortM.Plain
import Derived.Shelf.SortM.SortNone
import Derived.Shelf.SlIter.Sorted
import Derived.Shelf.SlIter.Nil
import Derived.Test.YtjjjihkifgdhgaaGreatProg
import Derived.KernelRfl
set_option linter.all false
namespace Go.Proofs.YtjjjihkifgdhgaaGreat
open Go.IntKind renaming wrap → wi0
open Go.RowKit
section
variable {P : Program} {E : Nat → Value} {W : World} {d : Option Nat} {ty : TypeId} {pos : String} {af : Array Edge} {g : Option (Nat × Bool)}
 {dd : Bool} {F : Nat → Prop} {w : World} {μ : jW} {L : List (Nat × Obj)}
def EL {α : Type} (a : Nat) (z : α) (n : Int) : Option (List α) := if 0 ≤ n ∧ (a : Int) * n ≤ 140737488355328 ∧ n ≤ (maxLen : Int) then some (List.replicate n.toNat z) else none
theorem HK {α : Type} {enc : α → List Value} {k : Nat} (hk : ∀ x, (enc x).length = k) (a : 0 < k) (z : α) (n : Nat) : (madeCells (enc z).toArray (n * k)).toList = ((List.replicate n z).map enc).flatten := by
 apply List.ext_getElem
 ·rw [pZ hk, dm, size_madeCells]; simp
 ·intro i h1 h
  rw [dm, size_madeCells] at h1
  have j : i / k < n := by rw [gK a]; exact h1
  have d : i % k < (enc z).length := by rw [hk]; exact Nat.mod_lt _ a
  have b := wL hk (List.replicate n z) (i / k) z (by rw [List.getElem?_replicate, bD j]) (i % k) _ (cX d)
  rw [show i / k * k + i % k = i by rw [Nat.mul_comm]; exact Nat.div_add_mod i k] at b
  rw [cX h] at b
  have g := Option.some.inj b
  rw [g]
  simp only [madeCells, Array.getElem_toList, Array.getElem_map, Array.getElem_range, dB, hk]
  rw [getElem!_pos _ _ (by simpa using d)]
  simp
theorem Kl {K : Value → World → Prop} {α : Type} {e t : TypeId} {enc : α → List Value} {k a : Nat} {b : Value} {n : Int} {l : IntKind} {z : α} {r : List α} {x y : Operand} {i : TypeInfo} (m : ST dd F w W μ L) (hk : ∀ x, (enc x).length = k) (s : 0 < k) (R : P.underlying t = some (.slice e)) (O : P.info? e = some i) (Y : i.zero = some b) (u : i.size = k) (q : i.bytes = a) (M : b.cells = (enc z).toArray) (T : jI E x = .int l n) (U : jI E y = .int l n) (j : EL a z n = some r) (h : ∀ W' v R', ST dd F w W' μ (R' ++ L) → jV e enc k v r R' → K v W') : nf P E ⟨d, .makeSlice t x y, ty, pos, af, g⟩ W K := by
 unfold EL at j
 split at j
 case isFalse => cases j
 rename_i p
 cases j
 obtain ⟨G, h1, I⟩ := p
 subst u; subst q
 have J : n.toNat ≤ maxLen := by omega
 have Q := run_make (P := P) W t e i b R O Y l l n n G (Int.le_refl _) (by omega) (by simp only [maxLen] at I; omega)
 refine .inl ⟨.slice (some ⟨W.heap.size, 0, none⟩) n.toNat n.toNat, W.alloc (.cells (madeCells b.cells (n.toNat * i.size)) e), ?_, h _ _ [(W.heap.size, .cells (madeCells b.cells (n.toNat * i.size)) e)] (m.alloc _) ?_⟩
 ·show (do pure (.value (← Instr.makeSlice t (jI E x) (jI E y))) : Sem Next).run P W = _
  rw [T, U]
  simp only [cA, Q, bM, cZ]
 ·exact jV.lit (by rw [gM]) J (by rw [M]; exact HK hk s z _) (by rw [size_madeCells])
end
theorem pD.xc {κ γ : Type} {kenc : κ → Value} {Q : Value → γ → List (Nat × Obj) → Prop} {μ : jW} {v : Value} {l : List (κ × γ)} (h : pD kenc Q μ v l) : v.oneCell' = true := by
 obtain ⟨a, R, h, _⟩ := h
 obtain ⟨m, rfl⟩ := h.form
 rfl
theorem uV.xc {κ β : Type} {kenc : κ → Value} {vf : β → Value} {μ : jW} {v : Value} {l : List (κ × β)} (h : uV kenc vf μ v l) : v.oneCell' = true := by
 obtain ⟨m, rfl⟩ := h.form
 rfl
variable [M : Md]
section
variable {dd : Bool}
def Bg {α : Type} (R : pF α) : jW → List Value → α → Prop := fun μ vs x => ∃ ys, vs = [.agg ys.toArray] ∧ R μ ys x
def vC {α β : Type} (R : pF α) (S : pF β) : jW → List Value → α × β → Prop := fun μ vs x => ∃ ys zs, vs = [.agg ys.toArray, .agg zs.toArray] ∧ R μ ys x.1 ∧ S μ zs x.2
theorem Bg.mk {α : Type} {R : pF α} {k : Nat} {μ μ' : jW} {ys : List Value} {x : α} (a : Deep R k) (h : R μ ys x) (b : jX μ μ') : Bg R μ' [.agg ys.toArray] x := ⟨ys, rfl, a.mono _ _ _ _ b h⟩
theorem vC.mk {α β : Type} {R : pF α} {S : pF β} {k m : Nat} {μ μ' : jW} {ys zs : List Value} {x : α} {y : β} (d : Deep R k) (g : Deep S m) (h : R μ ys x) (b : S μ zs y) (a : jX μ μ') : vC R S μ' [.agg ys.toArray, .agg zs.toArray] (x, y) :=
 ⟨ys, zs, rfl, d.mono _ _ _ _ a h, g.mono _ _ _ _ a b⟩
def xD {α β : Type} (P : Program) (fv : Value) (μ : jW) (Ra : jW → List Value → α → Prop) (a : β → Value) (pm : α → Option β) : Prop :=
 ∃ f first caps, fv = .func (.func f) first caps ∧ (∀ args w, (callFunc f args).run P w = .ok (.enter f args) w) ∧ ∀ W x vs r, jX μ (hp W) → Ra (hp W) vs x → pm x = some r → jZ false P f (first.toList ++ (vs ++ caps.toList)) W (a r)
theorem xD.form {α β : Type} {P : Program} {fv : Value} {μ : jW} {Ra : jW → List Value → α → Prop} {d : β → Value} {pm : α → Option β} (h : xD P fv μ Ra d pm) : ∃ f a b, fv = .func f a b := let ⟨f, a, b, h, _⟩ := h; ⟨_, a, b, h⟩
end
section
variable {P : Program} {W : World} {E : Nat → Value} {d : Option Nat} {ty : TypeId} {pos : String} {af : Array Edge} {g : Option (Nat × Bool)} {F : Nat → Prop} {w : World} {μ μ0 : jW} {L : List (Nat × Obj)}
theorem xD.mono {α β : Type} {fv : Value} {Ra : jW → List Value → α → Prop} {a : β → Value} {pm : α → Option β} (h : xD P fv μ Ra a pm) (g : jX μ μ0) : xD P fv μ0 Ra a pm := by
 obtain ⟨f, first, caps, h1, b, d⟩ := h
 exact ⟨f, first, caps, h1, b, fun W x vs r h => d W x vs r (g.trans h)⟩
theorem yN {α β : Type} {K : Value → World → Prop} {fv : Value} {Ra : jW → List Value → α → Prop} {j : β → Value} {pm : α → Option β} {b : Operand} {ax : Array Operand} {ats : Array TypeId} (x : α) {vs : List Value} {r : β} (a : ST false F w W μ L) (q : xD P fv μ0 Ra j pm) (t : jX μ0 μ) (p : Ra (hp W) vs x) (s : jI E b = fv) (ha : ax.map (jI E) ++ (#[] : Array Value) = vs.toArray) (hm : pm x = some r) (h : ∀ W', ST false F w W' μ L → K (j r) W') : nf P E ⟨d, .call ⟨.value b, ax, ats⟩, ty, pos, af, g⟩ W K := by
 obtain ⟨f, first, caps, rfl, k, l⟩ := q
 have i : ax.map (jI E) = vs.toArray := by simpa using ha
 refine .inr (.inr ⟨f, (first.toList ++ (vs ++ caps.toList)).toArray, ?_, cW (l W x vs r (t.trans a.jF) p hm) (fun _ _ ⟨m, n⟩ => ⟨_, m, h _ (a.Gy n)⟩)⟩)
 show (do let d ← resolve (jI E) ⟨.value b, ax, ats⟩ ty; invoke d.target d.args : Sem Next).run P W = _
 simp only [resolve, s, Deferred.ofValue, cA, cZ, bM, invoke, i, k]
 congr 2
 simp
end
section
variable {dd : Bool}
variable {β : Type} {Rl : pF β} {k : Nat} {μ : jW} {v : Value} {l : List β} {e : TypeId} {B : List (Nat × Obj)}
variable {F : Nat → Prop} {w W : World} {L : List (Nat × Obj)}
variable {P : Program} {E : Nat → Value} {d : Option Nat} {ty : TypeId} {pos : String} {af : Array Edge} {g : Option (Nat × Bool)}
theorem Jn {α : Type} {enc : α → List Value} (hk : ∀ x, (enc x).length = k) (d : 0 < k) (g : ∀ x y, enc x = enc y → x = y) : ∀ {l m : List α}, (l.map enc).flatten = (m.map enc).flatten → l = m
 | [], [], _ => rfl
 | [], b :: m, h => by
  have := bN List.length h
  simp only [eG, dp, bL, bH, bP, aF, hk] at this
  omega
 | a :: l, [], h => by
  have := bN List.length h
  simp only [eG, dp, bL, bH, bP, aF, hk] at this
  omega
 | a :: l, b :: m, h => by
  simp only [bH, bP] at h
  obtain ⟨h1, i⟩ := List.append_inj h (by rw [hk, hk])
  rw [g _ _ h1, Jn hk d g i]
theorem TG (x y : xa k) (h : vy x = vy y) : x = y := Subtype.ext h
theorem jV.pre {v1 : Value} {cl a : List (xa k)} (g : 0 < k) (h : jV e vy k v cl B) (h1 : jV e vy k v1 a B) (d : a.length ≤ cl.length) : a = cl.take a.length := by
 rcases h with ⟨rfl, rfl, rfl⟩ | ⟨r, cap, b, rfl, rfl, s, t, u, p⟩
 ·simp at d; simp [d]
 ·rcases h1 with ⟨_, _, h⟩ | ⟨g1, i, j, rfl, l, q, a2, a3, a4⟩
  ·cases h
  ·cases l
   refine Jn ze g TG ?_
   rw [← a4]
   have hle : a.length * k ≤ cl.length * k := cM _ d
   have : b.toList.take (a.length * k) = (b.toList.take (cl.length * k)).take (a.length * k) := by rw [gA, dy hle]
   rw [this, p]
   have m : (cl.map vy).flatten = ((cl.take a.length).map vy).flatten ++ ((cl.drop a.length).map vy).flatten := by rw [← cQ, ← cE, gL]
   have n : ((cl.take a.length).map vy).flatten.length = a.length * k := by rw [pZ ze, dA, dy d]
   rw [m, ← n, List.take_left]
theorem pA.replicate {α β : Type} {Q : α → β → Prop} {a : α} {b : β} (h : Q a b) : ∀ n, pA Q (List.replicate n a) (List.replicate n b)
 | 0 => .nil
 | n + 1 => .cons h (pA.replicate h n)
theorem pA.TF {α β : Type} {Q : α → β → Prop} {l : List α} {m : List β} (h : pA Q l m) {a : α} {b : β} (d : Q a b) (i : Nat) : pA Q (oI l i a) (oI m i b) := by
 unfold oI
 rw [h.length]
 exact (h.take i).append (pA.replicate d _)
theorem CU {t e' : TypeId} {x ih : Operand} {u : IntKind} {i : Int} (r : P.underlying t = some (.slice e')) (he : ∀ w, (sizeOf e').run P w = .ok k w) (s : jI E x = v) (p : jI E ih = .int u i) (h : kB e Rl k μ v l B) (j : 0 ≤ i) (q : i ≤ l.length) :
  ∃ a, kB e Rl k μ a (l.take i.toNat) B ∧ ∀ W, lT P E ⟨d, .slice t x none (some ih) none, ty, pos, af, g⟩ W a W := by
 obtain ⟨cl, h1, b⟩ := h
 obtain ⟨a, m, n⟩ := Bt (d := d) (ty := ty) (pos := pos) (af := af) (g := g) r he s p h1 ze j (by rw [b.length]; exact q)
 exact ⟨a, ⟨_, m, b.take _⟩, n⟩
theorem AP {t e' : TypeId} {x a : Operand} {r : IntKind} {i : Int} (p : P.underlying t = some (.slice e')) (he : ∀ w, (sizeOf e').run P w = .ok k w) (q : jI E x = v) (m : jI E a = .int r i) (h : kB e Rl k μ v l B) (b : 0 ≤ i) (n : i ≤ l.length) :
  ∃ u, Av k v i.toNat u ∧ ∀ W, lT P E ⟨d, .slice t x (some a) none none, ty, pos, af, g⟩ W u W := by
 obtain ⟨cl, h1, j⟩ := h
 exact zA p he q m h1 b (by rw [j.length]; exact n)
theorem L6 {t e' : TypeId} {x : Operand} {u : Value} {i : Nat} (b : P.underlying t = some (.slice e')) (j : jI E x = u) (hu : Av k v i u) (h : kB e Rl k μ v l B) : lT P E ⟨d, .call ⟨.builtin .len, #[x], #[t]⟩, ty, pos, af, g⟩ W (.int .i64 ((l.length - i : Nat) : Int)) W := by
 obtain ⟨cl, h1, a⟩ := h
 rw [← a.length]
 exact H4 b j hu h1
theorem AZ {t e' : TypeId} {x j : Operand} {J : IntKind} {i : Int} {x0 : β} {u : Value} {o : Nat} {A : List Value → Prop} (y : ∀ {ys}, Rl μ ys x0 → A ys) (G : P.underlying t = some (.slice e')) (he : ∀ w, (sizeOf e').run P w = .ok k w) (I : jI E x = u) (r : jI E j = .int J i) (h : kB e Rl k μ v l B) (hu : Av k v o u) (m : 0 ≤ i) (s : (l.drop o)[i.toNat]? = some x0) :
  ∃ p, (∃ ys, A ys ∧ At (B3 B) p ys ∧ AH B k p (o + i.toNat)) ∧ ∀ W, lT P E ⟨d, .indexAddr t x j, ty, pos, af, g⟩ W p W := by
 obtain ⟨cl, h1, n⟩ := h
 obtain ⟨c, b, z⟩ := (n.drop o).get s
 obtain ⟨p, a, q⟩ := zL (d := d) (ty := ty) (pos := pos) (af := af) (g := g) G he I r h1 hu m b
 exact ⟨p, ⟨c.1, y z, a.at h1 ze (Ba b), a⟩, q⟩
theorem DW {K : Value → World → Prop} {z : β} {zs : List Value} {Y : List (Nat × Obj)} {t e' : TypeId} {x : Operand} {u j : Value} {i : Nat} (p : Deep Rl k) (b : ST dd F w W μ (B ++ Y)) (h : kB e Rl k μ v l B) (a : Rl μ zs z) (s : P.underlying t = some (.slice e')) (G : ∀ w, (zeroValue e').run P w = .ok j w) (hu : Av k v i u) (r : j.cells = zs.toArray) (y : jI E x = u) (q : ∀ W' R', ST dd F w W' μ (R' ++ Y) → kB e Rl k μ v (oI l i z) R' → K (.tuple #[]) W') : nf P E ⟨d, .call ⟨.builtin .clear, #[x], #[t]⟩, ty, pos, af, g⟩ W K := by
 obtain ⟨cl, h1, n⟩ := h
 exact B7 (p.cell a) b h1 ze Ox s G hu r y (fun W' R' m a2 => q W' R' m ⟨_, a2, n.TF a i⟩)
end
section
variable {P : Program} {W : World} {E : Nat → Value} {d : Option Nat} {ty : TypeId} {pos : String} {af : Array Edge} {g : Option (Nat × Bool)}
theorem Iq {i p : TypeId} {x y : Operand} {fv : Value} {s u : Array TypeId} {j : Bool} (l : P.underlying i = some (.func s u j)) (h : ∃ f a b, fv = .func f a b) (m : jI E x = fv) (n : jI E y = .nilFunc) :
  lT P E ⟨d, .binOp .neq i x y p, ty, pos, af, g⟩ W (.bool true) W := by
 obtain ⟨f, a, b, rfl⟩ := h
 show (do let r ← (do eqGuard .neq i x y (jI E x) (jI E y); binOp .neq i (jI E x) (jI E y)); pure (.value r) : Sem Next).run P W = _
 rw [m, n]
 have k := FL 9999 l f a b W
 simp [eqGuard, binOp, Op.equal, show Op.maxDepth = 9999 + 1 from rfl, k]
end
end Go.Proofs.YtjjjihkifgdhgaaGreat
namespace Go.Proofs.YtjjjihkifgdhgaaGreat
open Go.IntKind renaming wrap → wi0
open Go.RowKit
variable [M : Md]
theorem bS {α β : Type} {m : Option α} {f : α → Option β} {r : β} {G : Prop} (h : m.bind f = some r) (k : ∀ x, m = some x → f x = some r → G) : G :=
 let ⟨x, a, b⟩ := bind_some h
 k x a b
theorem sj {α : Type} {a b : α} (h : some a = some b) : a = b := Option.some.inj h
theorem bC {α : Type} {b : Bool} {x y r : α} {G : Prop} (h : (if b = true then x else y) = r) (a : b = true → x = r → G) (k2 : b = false → y = r → G) : G := by
 rcases MH b with e | e
 ·exact a e (Ri e h)
 ·exact k2 e (Rk e h)
theorem cB {a b : Bool} (h : a = b) : Value.bool a = Value.bool b := bN Value.bool h
theorem nb {a b : Nat} (h : Nat.ble a b = true := by exact rfl) : a ≤ b := Nat.le_of_ble_eq_true h
def Tj : Nat → Nat → List Bool
 | 0, _ => []
 | n + 1, m => (m % 2 == 1) :: Tj n (m / 2)
def bm (n m : Nat) : Array Bool := (Tj n m).toArray
section
variable {P : Program} {n : Nat} {Q : nM} {E : Nat → Value} {W : World}
theorem CI {α : Type} {co : Operand} {b : Bool} {x y : Code} {A B r : α} (hm : (if b = true then A else B) = r) (a : jI E co = .bool b) (g : b = true → A = r → CW P n x Q E W) (d : b = false → B = r → CW P n y Q E W) : CW P n (.cond co x y) Q E W :=
 Mo a (fun e => g e (Ri e hm)) (fun e => d e (Rk e hm))
theorem CJ {σ ρ : Type} {m : Option σ} {k : σ → Option ρ} {r : ρ} {x : Code} {K : (Nat → Value) → World → Prop} (hm : m.bind k = some r) (I : σ → (Nat → Value) → World → Prop) (h1 : ∀ s, m = some s → CW P n x (py (I s) Q) E W) (d : ∀ s E W, I s E W → k s = some r → K E W) : CW P n x (py K Q) E W :=
 let ⟨s, a, b⟩ := bind_some hm
 NF (I s) (h1 s a) (fun E W h => d s E W h b)
theorem RH {σ ρ d : Type} {m : Option (d ⊕ σ)} {k : d ⊕ σ → Option ρ} {r : ρ} {x : Code} {K : (Nat → Value) → World → Prop} (hm : m.bind k = some r) (I : σ → (Nat → Value) → World → Prop) (h1 : ∀ s, m = some s → k s = some r → CW P n x (py (fun E W => ∃ t, s = .inr t ∧ I t E W) Q) E W) (g : ∀ s E W, I s E W → k (.inr s) = some r → K E W) : CW P n x (py K Q) E W :=
 let ⟨s, a, b⟩ := bind_some hm
 NF (fun E W => ∃ t, s = .inr t ∧ I t E W) (h1 s a b) (fun E W ⟨t, e, h⟩ => g t E W h (by subst e; exact b))
theorem LJ {σ ρ : Type} {m : Option σ} {k : σ → Option ρ} {r : ρ} {ops : Array Oper} {rest : List Oper} (hm : m.bind k = some r) (I : σ → (Nat → Value) → World → Prop) (j : Nat) (d : ∀ s E W, I s E W → k s = some r → LW P n ops Q (rest.drop j) E W) (h1 : ∀ s, m = some s → (∀ E W, I s E W → LW P n ops Q (rest.drop j) E W) → LW P n ops Q rest E W) : LW P n ops Q rest E W :=
 let ⟨s, a, b⟩ := bind_some hm
 h1 s a (fun E W h => d s E W h b)
theorem PJ {σ ρ : Type} {m : Option σ} {k : σ → Option ρ} {r : ρ} {ops : Array Oper} {S : Array Bool → World → Prop} {fuel : Nat} {listed : Array Bool} (hm : m.bind k = some r) (I : σ → (Nat → Value) → World → Prop) (g : Array Bool) (d : Nat) (i : ∀ s E W, I s E W → k s = some r → PX P n ops Q S d g E W) (h1 : ∀ s, m = some s → (∀ E W, I s E W → PX P n ops Q S d g E W) → PX P n ops Q S fuel listed E W) : PX P n ops Q S fuel listed E W :=
 let ⟨s, a, b⟩ := bind_some hm
 h1 s a (fun E W h => i s E W h b)
theorem cF (n : Nat) {f : FuncId} {fn : Func} {c : Code} {args : List Value} {w : World} {R : Ending → World → Prop} (a : P.funcs[f]? = some fn) (b : fn.body = some c) (h : @CW yB P n c (uK P fn R) (yA args) w) (g : fn.ntmps = n := by exact rfl) (d : args.length ≤ n := by exact nb) : Calls P f args.toArray w R := xF a b g d h
end
section
variable {dd : Bool} {P : Program} {fn : Func} {E : Nat → Value} {W w : World} {μ : jW} {L : List (Nat × Obj)}
theorem rP {t : Tmp} {v : Value} (a : ST dd kw w W μ L) (b : fn.results = #[.tmp t] := by exact rfl) (d : E t = v := by exact rfl) : uK P fn (fun e W' => e = .returned v ∧ Ex dd w W') .ret E W := lj b d ⟨rfl, a.ex⟩
end
theorem ST.Ey {dd : Bool} {F : Nat → Prop} {w W : World} {μ : jW} {x : Nat × Obj} {L : List (Nat × Obj)} (h : ST dd F w W μ (x :: L)) : ST dd F w W μ ([x] ++ L) := h
theorem ST.OJ {dd : Bool} {F : Nat → Prop} {w W : World} {μ : jW} {L : List (Nat × Obj)} (h : ST dd F w W μ L) : ST dd F w W μ ([] ++ L) := h
theorem aL {E : Nat → Value} {ax : Array Operand} {l : List Value} (h : ax.toList.map (jI E) = l) : ax.map (jI E) ++ (#[] : Array Value) = l.toArray := by subst h; apply Array.ext'; simp
section
variable {dd : Bool}
variable {P : Program} {E : Nat → Value} {W : World} {d : Option Nat} {ty : TypeId} {pos : String} {af : Array Edge} {g : Option (Nat × Bool)}
 {F : Nat → Prop} {w : World} {μ : jW} {L : List (Nat × Obj)}
variable {f : FuncId} {fv : Operand} {ax : Array Operand} {ats : Array TypeId} {args : List Value} {v : Value} {K : Value → World → Prop}
theorem Eg (a : ST dd F w W μ L) (he : ∀ args w, (callFunc f args).run P w = .ok (.enter f args) w) (b : jZ dd P f args W v) (h : ∀ W', ST dd F w W' μ L → K v W') (i : jI E fv = .func (.func f) #[] #[] := by exact rfl) (ha : ax.toList.map (jI E) = args := by exact rfl) : nf P E ⟨d, .call ⟨.value fv, ax, ats⟩, ty, pos, af, g⟩ W K := E5 a i he (aL ha) b h
theorem rH {α : Type} {e : TypeId} {enc : α → List Value} {k : Nat} {l : List α} {Y : List (Nat × Obj)} (a : ST dd F w W μ Y) (he : ∀ args w, (callFunc f args).run P w = .ok (.enter f args) w) (b : lC dd P f args W e enc k l) (h : ∀ W' v μ' R, ST dd F w W' μ' (R ++ Y) → jX μ μ' → Lo F w μ μ' → jV e enc k v l R → K v W') (i : jI E fv = .func (.func f) #[] #[] := by exact rfl) (ha : ax.toList.map (jI E) = args := by exact rfl) : nf P E ⟨d, .call ⟨.value fv, ax, ats⟩, ty, pos, af, g⟩ W K := yz _ a i he (aL ha) b h
theorem AT {K' : Value → List (Nat × Obj) → World → Prop} {L0 L2 : List (Nat × Obj)} (i : ST dd F w W μ L) (j : L.Perm (L0 ++ L2)) (he : ∀ args w, (callFunc f args).run P w = .ok (.enter f args) w) (k : Ae L0 W → (L0.map (·.1)).Nodup → jX μ (pS W L0) → (∀ b o, (b, o) ∈ L2 → pS W L0 b = some o) → kR dd P f args W L0 K') (h : ∀ W' v μ' L1, ST dd F w W' μ' (L1 ++ L2) → jX μ μ' → Lo F w μ μ' → (∀ b, W.heap.size ≤ b → ∀ o, pS W' L1 b = some o → μ' b = some o) → K' v L1 W' → K v W') (l : jI E fv = .func (.func f) #[] #[] := by exact rfl) (ha : ax.toList.map (jI E) = args := by exact rfl) : nf P E ⟨d, .call ⟨.value fv, ax, ats⟩, ty, pos, af, g⟩ W K :=
 E6 L0 L2 i j l he (aL ha) (fun a b c d => by have := k a b c d; simpa using this) h
theorem TW {K' : Value → List (Nat × Obj) → jW → Prop} {L0 L2 : List (Nat × Obj)} (i : ST dd F w W μ L) (j : L.Perm (L0 ++ L2)) (he : ∀ args w, (callFunc f args).run P w = .ok (.enter f args) w) (k : Ae L0 W → (L0.map (·.1)).Nodup → jX μ (pS W L0) → (∀ b o, (b, o) ∈ L2 → pS W L0 b = some o) → lO dd P f args W μ L0 K') (h : ∀ W' v μ' L1, ST dd F w W' μ' (L1 ++ L2) → jX μ μ' → Lo F w μ μ' → K' v L1 μ' → K v W') (l : jI E fv = .func (.func f) #[] #[] := by exact rfl) (ha : ax.toList.map (jI E) = args := by exact rfl) : nf P E ⟨d, .call ⟨.value fv, ax, ats⟩, ty, pos, af, g⟩ W K :=
 O6 L0 L2 i j l he (aL ha) (fun a b c d => by have := k a b c d; simpa using this) h
end
section
variable {E : Nat → Value} {x1 x2 x3 x4 x5 x6 x7 x8 : Operand} {v1 v2 v3 v4 v5 v6 v7 v8 : Value}
theorem Tk (h1 : jI E x1 = v1) : [x1].map (jI E) = [v1] := by rw [← h1]; rfl
theorem TR (h1 : jI E x1 = v1) (a : jI E x2 = v2) : [x1, x2].map (jI E) = [v1, v2] := by rw [← h1, ← a]; rfl
end
theorem oD {P : Program} {E : Nat → Value} {W : World} {d : Option Nat} {ty : TypeId} {pos : String} {af : Array Edge} {g : Option (Nat × Bool)} {t e m k b o : Nat} {x a : Operand} {r : IntKind} {i : Int} (p : P.underlying t = some (.array m e)) (he : ∀ w, (sizeOf e).run P w = .ok k w) (q : jI E x = .pointer (some ⟨b, o, none⟩)) (l : jI E a = .int r i) (h : 0 ≤ i) (n : i < (m : Int)) : lT P E ⟨d, .indexAddr t x a, ty, pos, af, g⟩ W (.pointer (some ⟨b, o + i.toNat * k, none⟩)) W := by
 show (do pure (.value (← Instr.indexAt t (jI E x) (jI E a))) : Sem Next).run P W = _
 rw [q, l]
 have j : 0 ≤ i ∧ i < (m : Int) := ⟨h, n⟩
 simp [Instr.indexAt, asIntOf, aZ p, he W, j, Instr.sureAddr, dF]
theorem DG {i j : Int} {E : Nat → Value} {x : Operand} {k : IntKind} (h : (i == j) = true) (a : jI E x = .int k i) : jI E x = .int k j := by rw [a, eq_of_beq h]
end Go.Proofs.YtjjjihkifgdhgaaGreat
namespace Go.Proofs.YtjjjihkifgdhgaaGreat
open Go.IntKind renaming wrap → wi0
open Go.RowKit
def T4 (R : List (Nat × Obj)) (k : Nat) (p : Value) (i a : Nat) : Prop := ∃ g o, R = [(g, o)] ∧ p = .pointer (some ⟨g, i * k + a, none⟩)
theorem AH.f {R : List (Nat × Obj)} {k : Nat} {p : Value} {i : Nat} (h : AH R k p i) : T4 R k p i 0 := h
section
variable {P : Program} {E : Nat → Value} {W : World} {d : Option Nat} {ty : TypeId} {pos : String} {af : Array Edge} {g : Option (Nat × Bool)}
 {dd : Bool} {F : Nat → Prop} {w : World} {μ : jW} {L : List (Nat × Obj)} {α : Type} {e' : TypeId} {enc : α → List Value} {k : Nat} {v : Value} {l : List α} {R : List (Nat × Obj)}
theorem jV.put (h : jV e' enc k v l R) (hk : ∀ x, (enc x).length = k) {p : Value} {i : Nat} (hp : AH R k p i) {x0 : α} (t : l[i]? = some x0) (x1 : α) :
  ∃ g a, R = [(g, .cells a e' (0, 0))] ∧ p = .pointer (some ⟨g, i * k, none⟩) ∧ i * k + k ≤ a.size ∧ (∀ j y, (enc x0)[j]? = some y → a[i * k + j]? = some y) ∧
   jV e' enc k v (l.set i x1) [(g, .cells (a.toList.take (i * k) ++ enc x1 ++ a.toList.drop (i * k + k)).toArray e' (0, 0))] := by
 have n : i < l.length := (bK.1 t).1
 obtain ⟨r, a, cap, rfl, rfl, s, z, m, E, rfl, G⟩ := AJ h hk hp t
 have hle : i * k + k ≤ cap * k := by
  have : (i + 1) * k ≤ cap * k := cM _ (by omega)
  rwa [cL, jg] at this
 have b : i * k + k ≤ l.length * k := by
  have : (i + 1) * k ≤ l.length * k := cM _ (by omega)
  rwa [cL, jg] at this
 have hlen : l.length * k ≤ cap * k := cM _ s
 refine ⟨r, a, rfl, rfl, by rw [m]; exact hle, G, .inr ⟨r, cap, _, by simp, rfl, by simpa using s, z, ?_, ?_⟩⟩
 ·show ((a.toList.take (i * k) ++ (enc x1) ++ a.toList.drop (i * k + k)).toArray).size = _
  have d : a.toList.length = cap * k := by simpa using m
  rw [dB, aF, aF, dA, gN, hk, d, dy (by omega)]; omega
 ·rw [gW, FJ hk l i x1 n, ← E]
  have u : (a.toList.take (l.length * k)).take (i * k) = a.toList.take (i * k) := by rw [gA]; congr 1; omega
  have w : (a.toList.take (l.length * k)).drop (i * k + k) = (a.toList.drop (i * k + k)).take (l.length * k - (i * k + k)) := by rw [iy]
  rw [u, w]
  show List.take (l.length * k) (a.toList.take (i * k) ++ enc x1 ++ a.toList.drop (i * k + k)) = _
  have d : a.toList.length = cap * k := by simpa using m
  have q : (a.toList.take (i * k) ++ enc x1).length = i * k + k := by rw [aF, dA, hk, d, dy (by omega)]
  rw [fB, dG (by rw [q]; exact b), q]
end
variable [M : Md]
theorem oc {v : Value} (h : v.cells.toList.all Value.oneCell' = true := by exact rfl) : ∀ u ∈ v.cells.toList, u.oneCell' = true := eW.1 h
theorem dc {p : Prop} [Decidable p] (h : p := by decide) : p := h
theorem kr {p : Prop} (h : p := by kernel_rfl) : p := h
theorem br {α : Sort _} {a b : α} (h : a = b := by rfl) : a = b := h
abbrev LO := List (Nat × Obj)
abbrev Ob (c : Array Value) (t : TypeId) : Obj := .cells c t (0, 0)
abbrev Ol (c : List Value) (t : TypeId) : Obj := .cells c.toArray t (0, 0)
theorem mf {P : Program} {t e : TypeId} {m k : Nat} {z : Value} {qs : Array (Nat × Value)} {cs : Array Value} (i : P.underlying t = some (.slice e)) (g : ∀ w, (sizeOf e).run P w = .ok k w) (l : ∀ w, (zeroValue e).run P w = .ok z w) (hm : m * k ≤ 16777216 := by decide) (d : qs.toList = (qs.toList.map (·.2)).zipIdx.map (fun p => (p.2, p.1)) := by exact rfl) (j : (qs.toList.map (·.2)).all (fun v => v.cells.size == k) = true := by exact rfl) (b : (qs.toList.map (·.2)).length = m := by exact rfl) (a : ((qs.toList.map (·.2)).flatMap (fun v => v.cells.toList)).toArray = cs := by exact rfl) (W : World) :
  (Instr.buildSlice t m qs).run P W = .ok (.slice (some ⟨W.heap.size, 0, none⟩) m m) (W.alloc (.cells cs e (0, 0))) :=
 xm _ i g l hm d (fun v h => eq_of_beq (eW.1 j v h)) b a W
section
variable {dd : Bool} {P : Program} {fn : Func} {E : Nat → Value} {W w : World} {μ : jW} {L L0 : List (Nat × Obj)}
theorem rQ {α : Type} {f : α → Value} {a r : α} {t : Tmp} (hm : some a = some r) (b : ST dd kw w W μ L) (d : fn.results = #[.tmp t] := by exact rfl) (g : E t = f a := by exact rfl) : uK P fn (fun e W' => e = .returned (f r) ∧ Ex dd w W') .ret E W := by
 obtain rfl := sj hm; exact lj d g ⟨rfl, b.ex⟩
theorem cG (n : Nat) {f : FuncId} {c : Code} {args : List Value} {v : Value} (a : P.funcs[f]? = some fn) (b : fn.body = some c) (h : ST dd kw w w (hp w) [] → @CW yB P n c (uK P fn (fun e i => e = .returned v ∧ Ex dd w i)) (yA args) w) (g : fn.ntmps = n := by exact rfl) (d : args.length ≤ n := by exact nb) : jZ dd P f args w v := xF a b g d (h (ST.start w))
theorem wm {K : Value → List (Nat × Obj) → World → Prop} (n : Nat) {f : FuncId} {c : Code} {args : List Value} (a : P.funcs[f]? = some fn) (d : fn.body = some c) (h : ST dd kw w w (hp w) [] → @CW yB P n c (uK P fn (fun e b => ∃ v L1, e = .returned v ∧ ry dd [] L1 w b ∧ K v L1 b)) (yA args) w) (i : fn.ntmps = n := by exact rfl) (g : args.length ≤ n := by exact nb) : kR dd P f args w [] K := xF a d i g (h (ST.start w))
theorem yF {K : Value → List (Nat × Obj) → World → Prop} (d : ny μ L0 w) (n : Nat) {f : FuncId} {c : Code} {args : List Value} (a : P.funcs[f]? = some fn) (g : fn.body = some c) (h : ST dd (keys L0) w w μ L0 → @CW yB P n c (uK P fn (fun e b => ∃ v L1, e = .returned v ∧ ry dd L0 L1 w b ∧ K v L1 b)) (yA args) w) (j : fn.ntmps = n := by exact rfl) (i : args.length ≤ n := by exact nb) : kR dd P f args w L0 K := xF a g j i (h (ST.J5 d))
theorem uB {K : Value → List (Nat × Obj) → jW → Prop} (d : ny μ L0 w) (n : Nat) {f : FuncId} {c : Code} {args : List Value} (a : P.funcs[f]? = some fn) (g : fn.body = some c) (h : ST dd (keys L0) w w μ L0 → @CW yB P n c (uK P fn (fun e b => ∃ v L1 μ1, e = .returned v ∧ ry dd L0 L1 w b ∧ jX μ μ1 ∧ Lo (keys L0) w μ μ1 ∧ jX μ1 (pS b L1) ∧ K v L1 μ1)) (yA args) w) (j : fn.ntmps = n := by exact rfl) (i : args.length ≤ n := by exact nb) : lO dd P f args w μ L0 K := xF a g j i (h (ST.J5 d))
end
section
variable {dd : Bool}
variable {P : Program} {E : Nat → Value} {W : World} {d : Option Nat} {ty : TypeId} {pos : String} {af : Array Edge} {g : Option (Nat × Bool)}
 {F : Nat → Prop} {w : World} {μ : jW} {L : List (Nat × Obj)}
variable {f : FuncId} {fv : Operand} {ax : Array Operand} {ats : Array TypeId} {args : List Value} {v : Value} {K : Value → World → Prop}
theorem eM {K' : Value → List (Nat × Obj) → World → Prop} {L0 L2 : List (Nat × Obj)} (i : ST dd F w W μ L) (j : L.Perm (L0 ++ L2)) (he : ∀ args w, (callFunc f args).run P w = .ok (.enter f args) w) (k : ny (pS W L0) L0 W → jX μ (pS W L0) → kR dd P f args W L0 K') (h : ∀ W' v μ' L1, ST dd F w W' μ' (L1 ++ L2) → jX μ μ' → Lo F w μ μ' → (∀ b, W.heap.size ≤ b → ∀ o, pS W' L1 b = some o → μ' b = some o) → K' v L1 W' → K v W') (l : jI E fv = .func (.func f) #[] #[] := by exact rfl) (ha : ax.toList.map (jI E) = args := by exact rfl) : nf P E ⟨d, .call ⟨.value fv, ax, ats⟩, ty, pos, af, g⟩ W K :=
 AT i j he (fun a b c _ => k ⟨a, b, jX.refl _⟩ c) h l ha
theorem eD {K' : Value → List (Nat × Obj) → jW → Prop} {L0 L2 : List (Nat × Obj)} (i : ST dd F w W μ L) (j : L.Perm (L0 ++ L2)) (he : ∀ args w, (callFunc f args).run P w = .ok (.enter f args) w) (k : ny μ L0 W → lO dd P f args W μ L0 K') (h : ∀ W' v μ' L1, ST dd F w W' μ' (L1 ++ L2) → jX μ μ' → Lo F w μ μ' → K' v L1 μ' → K v W') (l : jI E fv = .func (.func f) #[] #[] := by exact rfl) (ha : ax.toList.map (jI E) = args := by exact rfl) : nf P E ⟨d, .call ⟨.value fv, ax, ats⟩, ty, pos, af, g⟩ W K :=
 TW i j he (fun a b c _ => k ⟨a, b, c⟩) h l ha
end
def Ns (op : BinOp) : Value → Value → Option Value
 | .int k a, .int k' b => if k = k' then IM k op a b else none
 | _, _ => none
def Rj (i : Nat) : Value → Option Value
 | .tuple vs => vs[i]?
 | _ => none
def IV : Value → Bool
 | .pointer (some ⟨_, _, none⟩) => true
 | _ => false
def Q9 (o : Nat) : Value → Value
 | .pointer (some ⟨b, k, none⟩) => .pointer (some ⟨b, k + o, none⟩)
 | v => v
theorem Ib {v : Value} (h : IV v = true) : ∃ b k, v = .pointer (some ⟨b, k, none⟩) := by
 unfold IV at h; split at h
 ·exact ⟨_, _, rfl⟩
 ·cases h
section
variable {P : Program} {n : Nat} {Q : nM} {E : Nat → Value} {W : World} {ops : Array Oper} {rest : List Oper}
 {d j t : Nat} {want b : Bool} {v : Value} {ins : Go.Op} {ty : TypeId} {pos : String} {af : Array Edge} {A : Value → Prop} {x y : Operand}
theorem Wm (h : LW P n ops Q rest (nE E d (jI E x)) W) (a : d < n := by decide) : LW P n ops Q (⟨some d, .move x, ty, pos, af, none⟩ :: rest) E W := V (jz rfl) h a
theorem Wa (h : LW P n ops Q rest (nE E d (jI E x)) W) (a : d < n := by decide) : LW P n ops Q (⟨some d, .assign x, ty, pos, af, none⟩ :: rest) E W := V (mw rfl) h a
theorem Wh (b : jI E x = v) (h : LW P n ops Q rest (nE E d v) W) (a : d < n := by decide) : LW P n ops Q (⟨some d, .move x, ty, pos, af, none⟩ :: rest) E W := V (jz b) h a
theorem Wg (b : jI E x = v) (h : LW P n ops Q rest (nE E d v) W) (a : d < n := by decide) : LW P n ops Q (⟨some d, .assign x, ty, pos, af, none⟩ :: rest) E W := V (mw b) h a
theorem Wx {i : Nat} (a : Rj i (jI E x) = some v) (h : LW P n ops Q rest (nE E d v) W) (b : d < n := by decide) : LW P n ops Q (⟨some d, .extract x i, ty, pos, af, none⟩ :: rest) E W := by
 unfold Rj at a; split at a
 ·rename_i vs e; exact V (qv e a) h b
 ·cases a
theorem Wi {op : BinOp} {p m : TypeId} (g : Ns op (jI E x) (jI E y) = some v) (h : LW P n ops Q rest (nE E d v) W) (l : d < n := by decide) : LW P n ops Q (⟨some d, .binOp op p x y m, ty, pos, af, none⟩ :: rest) E W := by
 unfold Ns at g; split at g
 ·rename_i k a k' b i j
  split at g
  ·rename_i e; subst e; exact V (kh i j g) h l
  ·cases g
 ·cases g
theorem Wf {t : TypeId} {f off : Nat} (a : lH P t f off) (h : LW P n ops Q rest (nE E d (Q9 off (jI E x))) W) (hp : IV (jI E x) = true := by exact rfl) (g : d < n := by decide) : LW P n ops Q (⟨some d, .fieldAddr t x f, ty, pos, af, none⟩ :: rest) E W := by
 obtain ⟨b, k, e⟩ := Ib hp
 refine V (jE a e) ?_ g
 rw [e] at h; exact h
theorem Wn (h : LW P n ops Q rest (nE E d (jI E x)) W) (hp : IV (jI E x) = true := by exact rfl) (a : d < n := by decide) : LW P n ops Q (⟨some d, .nilCheck x, ty, pos, af, none⟩ :: rest) E W := by
 obtain ⟨b, k, e⟩ := Ib hp
 refine V (mT e) ?_ a
 rw [e] at h; exact h
theorem un (h : b = !want) (k : LW P n ops Q rest (nE E d undef) W) (g : (ops[j]?).bind (·.dst) = some t := by exact rfl) (a : E t = .bool b := by exact rfl) (l : t < n := by decide) (i : d < n := by decide) :
  LW P n ops Q (⟨some d, ins, ty, pos, af, some (j, want)⟩ :: rest) E W := Vn g (by rw [a, h]) k l i
theorem ug (h : b = want) (l : lT P E ⟨some d, ins, ty, pos, af, some (j, want)⟩ W v W) (k : LW P n ops Q rest (nE E d v) W) (g : (ops[j]?).bind (·.dst) = some t := by exact rfl) (a : E t = .bool b := by exact rfl) (m : t < n := by decide) (i : d < n := by decide) :
  LW P n ops Q (⟨some d, ins, ty, pos, af, some (j, want)⟩ :: rest) E W := Vg g (by rw [a, h]) l k m i
theorem tM (h : b = want) (k : nf P E ⟨some d, ins, ty, pos, af, some (j, want)⟩ W fun v W' => LW P n ops Q rest (nE E d v) W') (g : (ops[j]?).bind (·.dst) = some t := by exact rfl) (a : E t = .bool b := by exact rfl) (l : t < n := by decide) (i : d < n := by decide) :
  LW P n ops Q (⟨some d, ins, ty, pos, af, some (j, want)⟩ :: rest) E W := Lw g (by rw [a, h]) k l i
theorem TS (h : b = want) (l : ∃ p, A p ∧ ∀ W, lT P E ⟨some d, ins, ty, pos, af, some (j, want)⟩ W p W) (k : ∀ p, A p → LW P n ops Q rest (nE E d p) W) (g : (ops[j]?).bind (·.dst) = some t := by exact rfl) (a : E t = .bool b := by exact rfl) (m : t < n := by decide) (i : d < n := by decide) :
  LW P n ops Q (⟨some d, ins, ty, pos, af, some (j, want)⟩ :: rest) E W := Ti g (by rw [a, h]) l k m i
section
variable {dd : Bool} {F : Nat → Prop} {w : World} {μ : jW} {L : List (Nat × Obj)} {T : TypeId} {a off : Nat} {cs : Array Value} {fr : Nat × Nat}
theorem VA {t : TypeId} (b : ST dd F w W μ L) (i : (a, Obj.cells cs T fr) ∈ L) (ys : List Value) (g : ∀ w, (isAgg t).run P w = .ok true w) (j : ∀ w, (sizeOf t).run P w = .ok ys.length w) (h : LW P n ops Q rest (nE E d (.agg ys.toArray)) W) (l : jI E x = .pointer (some ⟨a, off, none⟩) := by exact rfl) (m : (cs.toList.drop off).take ys.length = ys := by exact rfl) (k : d < n := by decide) : LW P n ops Q (⟨some d, .load t x, ty, pos, af, none⟩ :: rest) E W := V (jx l (jD b.has i ys m g j)) h k
theorem VB {t : TypeId} (b : ST dd F w W μ L) (i : (a, Obj.cells cs T fr) ∈ L) (k : jI E x = .pointer (some ⟨a, off, none⟩)) (l : cs[off]? = some v) (g : ∀ w, (isAgg t).run P w = .ok false w) (h : LW P n ops Q rest (nE E d v) W) (j : d < n := by decide) : LW P n ops Q (⟨some d, .load t x, ty, pos, af, none⟩ :: rest) E W := V (jx k (jJ b.has i l g)) h j
end
section
variable {K : (Nat → Value) → World → Prop} {Q' : nM} {c : Code} {id id2 : Nat} {l : List Oper} {z : Code}
theorem sg (h : LW P n l.toArray (py (fun E W => CW P n c Q E W) Q) l E W) : CW P n (.seq (.region id l.toArray false) c) Q E W := jL (jG h)
theorem ln (h : K E W) : LW P n ops (py K Q) [] E W := jT (jH h)
theorem lr (h : LW P n l.toArray (py (fun E W => CW P n c Q E W) Q) l E W) : LW P n ops (py (fun E W => CW P n (.seq (.region id l.toArray false) c) Q E W) Q') [] E W := jT (jH (jL (jG h)))
theorem lS (h : LW P n l.toArray (py (fun E W => CW P n c (py (fun E W => CW P n z Q E W) Q) E W) (py (fun E W => CW P n z Q E W) Q)) l E W) : LW P n ops (py (fun E W => CW P n (.seq (.seq (.region id l.toArray false) c) z) Q E W) Q') [] E W := jT (jH (jL (jL (jG h))))
theorem bg (h : LW P n l.toArray (py (fun E W => CW P n c (vc id2 Q) E W) (vc id2 Q)) l E W) : CW P n (.block id2 (.seq (.region id l.toArray false) c)) Q E W := lz (jL (jG h))
theorem kg (h : LW P n l.toArray (py (fun E W => CW P n c Q E W) Q) l E W) : CW P n .skip (py (fun E W => CW P n (.seq (.region id l.toArray false) c) Q E W) Q') E W := kQ (jH (jL (jG h)))
theorem kS (h : LW P n l.toArray (py (fun E W => CW P n c (py (fun E W => CW P n z Q E W) Q) E W) (py (fun E W => CW P n z Q E W) Q)) l E W) : CW P n .skip (py (fun E W => CW P n (.seq (.seq (.region id l.toArray false) c) z) Q E W) Q') E W := kQ (jH (jL (jL (jG h))))
theorem lt (h : Q .ret E W) : LW P n ops (py (fun E W => CW P n .ret Q E W) Q') [] E W := jT (jH (ke h))
theorem kn (h : K E W) : CW P n .skip (py K Q) E W := kQ (jH h)
end
end
theorem pW.Pj {α : Type} {dd : Bool} {w W : World} {μ : jW} {L R : List (Nat × Obj)} {e : TypeId} {enc : α → List Value} {k : Nat} {v : Value} {l : List α} (h : pW e enc k v l R) (d : ST dd kw w W μ L) (j : ∀ p, p ∈ R → p ∈ L) : Fr w.heap.size v := by
 rcases h with ⟨rfl, rfl, rfl⟩ | ⟨g, off, cap, a, rfl, rfl, h1, m, n, q⟩
 ·exact Fr.nil _
 ·intro b i
  simp [Value.ownBlock] at i
  subst i
  rcases (d.box g (.cells a e (0, 0)) (j _ (bO.2 rfl))).2.2 with h | h
  ·exact h
  ·exact h.elim
theorem JJ.mono {α β : Type} {P : Program} {fv : Value} {μ μ0 : jW} {a : α → List Value} {b : β → Value} {pm : α → Option β} (h : JJ P fv μ a b pm) (i : jX μ μ0) : JJ P fv μ0 a b pm := by
 obtain ⟨f, caps, h1, d, g⟩ := h
 exact ⟨f, caps, h1, d, fun W x r h => g W x r (i.trans h)⟩
theorem JJ.form {α β : Type} {P : Program} {fv : Value} {μ : jW} {d : α → List Value} {g : β → Value} {pm : α → Option β} (h : JJ P fv μ d g pm) : ∃ f a b, fv = .func f a b := let ⟨f, b, h, _⟩ := h; ⟨_, _, b, h⟩
def xP {σ ρ α : Type} (fs : σ → α → Option (σ ⊕ ρ)) : σ ⊕ ρ → α → Option (Bool × (σ ⊕ ρ))
 | .inl s, x => (fs s x).map fun | .inl s' => (true, .inl s') | .inr q => (false, .inr q)
 | .inr _, _ => none
end Go.Proofs.YtjjjihkifgdhgaaGreat
namespace Go.Proofs.YtjjjihkifgdhgaaGreat
open Go.IntKind renaming wrap → wi0
open Go.RowKit
section
variable {P : Program} {n : Nat} {E : Nat → Value} {W : World} {c y : Code} {a : Act} {cs : List Frame} {Q : Exit → Act → List Frame → World → Prop}
theorem OA {args : List Value} {fn : Func} {n : Nat} (b : fn.ntmps = n) (h : args.length ≤ n) : Ag n { tmps := args.toArray ++ Array.replicate (fn.ntmps - args.toArray.size) undef, defers := [] } (yA args) := by
 refine ⟨by simp; omega, rfl, fun t => ?_⟩
 simp only [yA, ej, List.getD_eq_getElem?_getD, gJ, Array.getElem?_replicate, dB, fO]
 by_cases a : t < args.length
 ·rw [bD a]
 ·rw [bB a, fa (by omega)]
  split <;> simp
end
theorem pD.form {κ γ : Type} {kenc : κ → Value} {Q : Value → γ → List (Nat × Obj) → Prop} {μ : jW} {v : Value} {l : List (κ × γ)} (h : pD kenc Q μ v l) : ∃ m, v = .map m := by
 obtain ⟨a, R, h, _⟩ := h
 obtain ⟨m, rfl⟩ := h.form
 exact ⟨_, rfl⟩
theorem lO.mono {dd : Bool} {P : Program} {f : FuncId} {args : List Value} {w : World} {μ0 : jW} {L0 : List (Nat × Obj)} {K K' : Value → List (Nat × Obj) → jW → Prop} (h : lO dd P f args w μ0 L0 K) (hk : ∀ v L1 μ1, jX μ0 μ1 → K v L1 μ1 → K' v L1 μ1) : lO dd P f args w μ0 L0 K' :=
 cW h fun _ _ ⟨v, L1, μ1, h1, b, a, d, g, i⟩ => ⟨v, L1, μ1, h1, b, a, d, g, hk _ _ _ a i⟩
theorem Ng {M : Md} {n : Nat} {P : Program} {l : Nat} {f : FuncId} {tmps : Array Value} {ax body : Code} {w : World} {R : Ending → World → Prop} : RoundIn M.F n P l f tmps ax body w R ↔ RoundIn Fence.wide n P l f tmps ax body w R := Iff.rfl
def Re (P : Program) (E : Nat → Value) (o : Oper) (W : World) (K : Value → World → Prop) : Prop :=
 ∃ l fn tmps ax body, (execOp (jI E) o).run P W = .ok (.round l fn tmps ax body) W ∧ RoundIn Fence.wide 0 P l fn tmps ax body W fun e a => ∃ v, e = .returned v ∧ K v a
section
variable [M : Md] {P : Program} {n : Nat} {Q : nM} {E : Nat → Value} {W : World} {ops : Array Oper} {rest : List Oper} {o : Oper}
theorem Tm {dd : Nat} (hw : sw n ops E o) (d : o.dst = some dd) (i : dd < n) (h : Re P E o W fun v W' => LW P n ops Q rest (nE E dd v) W') : LW P n ops Q (o :: rest) E W := fun a ha => by
 obtain ⟨l, fn, tmps, ax, body, h1, b⟩ := h
 unfold wpListIn
 rw [bD (hw.of ha)]
 unfold Oper.wpIn
 refine ⟨fun _ _ => trivial, ?_⟩
 rw [ha.eval, yc h1 (by simp), Oper.uponIn_round]
 refine ⟨fun e => (nomatch (show (none : Option Nat).isSome = true from e)), RoundIn.mono (Ng.2 b) ?_⟩
 rintro e j ⟨v, rfl, g⟩
 simp only [d]
 exact g _ (ha.put i v)
end
abbrev GN (l : Nat) : Md := ⟨some l, []⟩
abbrev LC (D : List Deferred) : Md := ⟨none, D⟩
def SN (n : Nat) (Q : List Deferred → nM) (e : Exit) (a : Act) (w : World) : Prop := ∃ D, @lift (LC D) n (Q D) e a w
def Gp (P : Program) (n : Nat) (c : Code) (Q : List Deferred → nM) (E : Nat → Value) (W : World) : Prop := ∀ a, @Ag yB n a E → c.wpIn Fence.wide 0 P (SN n Q) a W
def Rt (E : Nat → Value) (l : List (Nat × Value)) : Nat → Value := l.foldl (fun E p => nE E p.1 p.2) E
def Q8 (l : Nat) (K : Value → World → Prop) : nM
 | .normal, _, w => ∃ r, w.heap[l]? = some (.loop r) ∧ K (.bool true) (w.putObj l (.loop { r with state := .ready, pending := none }))
 | .ret, _, w => ∃ r, w.heap[l]? = some (.loop r) ∧ K (.bool false) (w.putObj l (.loop { r with state := .done, pending := some .ret }))
 | .exit id, _, w => ∃ r, w.heap[l]? = some (.loop r) ∧ K (.bool false) (w.putObj l (.loop { r with state := .done, pending := some (.exit id) }))
 | _, _, _ => False
def OI (l : Nat) (Q : nM) (E : Nat → Value) (w : World) : Prop :=
 ∃ r, w.heap[l]? = some (.loop r) ∧ r.state ≠ .busy ∧
  ((r.pending = none ∧ Q .normal E (w.putObj l (.loop { r with state := .exhausted }))) ∨ (r.pending = some .ret ∧ Q .ret E (w.putObj l (.loop { r with state := .exhausted }))) ∨
   (∃ id, r.pending = some (.exit id) ∧ Q (.exit id) E (w.putObj l (.loop { r with state := .exhausted }))))
section
variable {P : Program} {n : Nat} {Q : List Deferred → nM} {E : Nat → Value} {W : World} {c x y : Code}
theorem yl (h : @CW yB P n x (py (fun E W => Gp P n y Q E W) (Q [])) E W) : Gp P n (.seq x y) Q E W := fun a ha =>
 wpIn_seq (fA (h a ha) (fun e d i h => by
  cases e with
  | normal => obtain ⟨E', b, g⟩ := h; exact g d b
  | _ => exact ⟨[], h⟩))
theorem N1 (h : Gp P n x (fun D => py (fun E W => @CW (LC D) P n y (Q D) E W) (Q D)) E W) : Gp P n (.seq x y) Q E W := fun a ha =>
 wpIn_seq (fA (h a ha) (fun e d i ⟨D, h⟩ => by
  cases e with
  | normal => obtain ⟨E', b, g⟩ := h; exact fA (g d b) (fun _ _ _ h => ⟨D, h⟩)
  | _ => exact ⟨D, h⟩))
theorem H0 {id : Nat} (h : Gp P n c (fun D => vc id (Q D)) E W) : Gp P n (.block id c) Q E W := fun a ha =>
 wpIn_block (fA (h a ha) (fun e i k ⟨D, h⟩ => by
  cases e with
  | exit j =>
   obtain ⟨E', b, d⟩ := h
   simp only [Exit.inBlock]
   simp only [vc] at d
   split at d
   ·rename_i g; rw [bD g]; exact ⟨D, E', b, d⟩
   ·rename_i g; rw [bB g]; exact ⟨D, E', b, d⟩
  | _ => exact ⟨D, h⟩))
theorem Lu {M : Md} : ∀ (l : List (Nat × Value)) {a : Act} {E : Nat → Value}, @Ag M n a E → (∀ p ∈ l, p.1 < n) → @Ag M n { a with tmps := l.foldl (fun t p => t.setIfInBounds p.1 p.2) a.tmps } (Rt E l)
 | [], _, _, h, _ => h
 | p :: l, a, E, h, hp => by
  have h1 : @Ag M n { a with tmps := a.tmps.setIfInBounds p.1 p.2 } (nE E p.1 p.2) := Ag.put h (hp p (gn ..)) p.2
  exact Lu l h1 (fun q b => hp q (dq _ b))
theorem IG {g : Operand} {k : Array Tmp} {assign body : Code} {f : FuncId} {caps : Array Value} (p : jI E g = .func (.func f) #[] caps) (he : ∀ args w, (callFunc f args).run P w = .ok (.enter f args) w) (h : ∀ (fn : FuncId) (tmps : Array Value), tmps.size = n → (∀ t, tmps.getD t undef = E t) →
   Calls P f (#[.func (.yield (W.heap.size + 1)) #[] #[]] ++ caps) ((W.alloc (.deferred (some []))).alloc (.loop { state := .ready, pending := none, fn, tmps, params := k, assign, body, defers := W.heap.size }))
    fun e w => (∃ v, e = .returned v) ∧ OI (W.heap.size + 1) (Q [{ target := .collected W.heap.size, args := #[] }]) E w) : Gp P n (.rangeFunc g k assign body) Q E W := fun a ha => by
 refine wpIn_rangeFunc fun fn _ => ?_
 have j : resolve a.eval (rangeCall g (W.heap.size + 1)) 0 = pure { target := .fn (.func f) caps, args := #[.func (.yield (W.heap.size + 1)) #[] #[]] } := by
  rw [Ag.eval ha]
  simp only [resolve, rangeCall]
  rw [p]
  simp [Deferred.ofValue, jI]
 refine ⟨_, _, _, ⟨.fn (.func f) caps, #[.func (.yield (W.heap.size + 1)) #[] #[]]⟩, _, f, #[.func (.yield (W.heap.size + 1)) #[] #[]] ++ caps, _, run_enterLoop_outer fn a.tmps k assign body, by rw [j]; rfl, fun _ _ => trivial, (by rw [show invoke (.fn (.func f) caps) #[.func (.yield (W.heap.size + 1)) #[] #[]] = callFunc f (#[.func (.yield (W.heap.size + 1)) #[] #[]] ++ caps) from rfl]; exact he _ _), fun e => (nomatch (show (none : Option Nat).isSome = true from e)), ?_⟩
 refine gz.2 (cW (h fn a.tmps ha.1 ha.2.2) ?_)
 rintro e w ⟨⟨v, rfl⟩, ⟨st, pe, q, rt, u, r, s, rd⟩, h1, m, l⟩
 refine ⟨_, _, run_endLoop h1 m, ?_⟩
 simp only at l
 have b : @Ag (LC [{ target := .collected W.heap.size, args := #[] }]) n { a with defers := [{ target := .collected W.heap.size, args := #[] }] ++ a.defers } E := ⟨ha.1, by show _ ++ a.defers = _; rw [show a.defers = [] from ha.2.1]; rfl, ha.2.2⟩
 rcases l with ⟨d, i⟩ | ⟨d, i⟩ | ⟨id, d, i⟩
 ·subst d; exact ⟨_, E, b, i⟩
 ·subst d; exact wpIn_ret ⟨_, E, b, i⟩
 ·subst d; exact wpIn_exit ⟨_, E, b, i⟩
structure NQ (n : Nat) (ps : List Nat) (assign body : Code) (E : Nat → Value) (Lp : Loop) : Prop where
 st : Lp.state = .ready
 pe : Lp.pending = none
 params : Lp.params.toList = ps
 ax : Lp.assign = assign
 bo : Lp.body = body
 sz : Lp.tmps.size = n
 ev : ∀ t, Lp.tmps.getD t undef = E t
theorem HY {dd : Bool} {F : Nat → Prop} {w : World} {μ : jW} {L : List (Nat × Obj)} {g : Operand} {b : Array Tmp} {assign body : Code} {f : FuncId} {caps : Array Value} (a : ST dd F w W μ L) (j : jI E g = .func (.func f) #[] caps) (he : ∀ args w, (callFunc f args).run P w = .ok (.enter f args) w) (h : ∀ (l d : Nat) (Lp : Loop) (W1 : World), NQ n b.toList assign body E Lp → ST dd F w W1 μ ((l, .loop Lp) :: (d, .deferred (some [])) :: L) →
   Calls P f (#[.func (.yield l) #[] #[]] ++ caps) W1 fun e w => (∃ v, e = .returned v) ∧ OI l (Q [{ target := .collected d, args := #[] }]) E w) : Gp P n (.rangeFunc g b assign body) Q E W :=
 IG j he fun fn tmps k i => by
  have h1 := (a.alloc (.deferred (some []))).alloc (.loop { state := .ready, pending := none, fn, tmps, params := b, assign, body, defers := W.heap.size })
  rw [World.size_alloc] at h1
  exact h _ _ _ _ ⟨rfl, rfl, rfl, rfl, rfl, k, i⟩ h1
theorem ID {l : Nat} {f : FuncId} {tmps : Array Value} {assign body : Code} {K : Value → World → Prop} (k : tmps.size = n) (i : ∀ t, tmps.getD t undef = E t) (h : @CW (GN l) P n assign (fun e E1 W1 => e = .normal ∧ ∃ r, W1.heap[l]? = some (.loop r) ∧ r.state = .ready ∧ @CW (GN l) P n body (Q8 l K) E1 (W1.putObj l (.loop { r with state := .busy }))) E W) :
  RoundIn Fence.wide 0 P l f tmps assign body W fun e m => ∃ v, e = .returned v ∧ K v m := by
 refine roundIn_of_wpIn trivial (fA (h _ ⟨k, rfl, i⟩) ?_)
 intro e a w b
 cases e with
 | normal =>
  obtain ⟨E1, ha, _, r, h1, d, g⟩ := b
  refine ⟨_, run_beginRound h1 d, fA (g a ha) ?_⟩
  intro e a w b
  cases e with
  | normal => obtain ⟨E2, _, r, h1, d⟩ := b; exact ⟨_, _, run_endRound none h1, _, rfl, d⟩
  | ret => obtain ⟨E2, _, r, h1, d⟩ := b; exact ⟨_, _, run_endRound (some .ret) h1, _, rfl, d⟩
  | exit id => obtain ⟨E2, _, r, h1, d⟩ := b; exact ⟨_, _, run_endRound (some (.exit id)) h1, _, rfl, d⟩
  | goto t => obtain ⟨E2, _, h⟩ := b; exact h.elim
  | panic c => exact b.2.elim
  | outgrown => exact b.elim
 | panic c => exact absurd b.2.1 (by simp)
 | outgrown => exact b.elim
 | _ => obtain ⟨E', j, h1, _⟩ := b; cases h1
def IN (P : Program) (fn : Func) (R : Ending → World → Prop) (D : List Deferred) : nM := fun e E W =>
 (D = [] ∧ uK P fn R e E W) ∨ ∃ d, D = [{ target := .collected d, args := #[] }] ∧ W.heap[d]? = some (.deferred (some [])) ∧ uK P fn R e E (W.putObj d (.deferred none))
theorem EM {f : FuncId} {fn : Func} {args : List Value} {w : World} {R : Ending → World → Prop} (r : P.funcs[f]? = some fn) (q : fn.body = some c) (s : fn.ntmps = n) (ha : args.length ≤ n) (h : Gp P n c (fun D => IN P fn R D) (yA args) w) : Calls P f args.toArray w R := by
 refine gz.1 (callsIn_of_wp_marks (n := 0) r q trivial (fA (h _ (OA s ha)) ?_))
 intro e a w ⟨D, b⟩
 have key : ∀ (E : Nat → Value) (e : Exit), (e = .normal ∨ e = .ret) → @Ag (LC D) n a E → IN P fn R D e E w → LeavesInM Fence.wide 0 P fn a.tmps R a.defers .returning w := by
  intro E e he j u
  rw [j.2.1]
  show LeavesInM Fence.wide 0 P fn a.tmps R D .returning w
  have k : ∀ w, uK P fn R e E w → LeavesInM Fence.wide 0 P fn a.tmps R [] .returning w := fun w h => by
   have i : ∃ v, (∀ tmps : Array Value, (∀ t, tmps.getD t undef = E t) → (results fn tmps).run P w = .ok v w) ∧ R (.returned v) w := by
    rcases he with rfl | rfl <;> exact h
   obtain ⟨v, m, p⟩ := i
   exact ⟨v, m _ j.2.2, p⟩
  rcases u with ⟨rfl, h⟩ | ⟨d, rfl, h1, i⟩
  ·exact k _ h
  ·refine ⟨by simp, .inl ⟨d, _, rfl, run_takeDeferred h1, k _ i⟩⟩
 cases e with
 | normal => obtain ⟨E, g, h⟩ := b; exact key E _ (.inl rfl) g h
 | ret => obtain ⟨E, g, h⟩ := b; exact key E _ (.inr rfl) g h
 | exit id => obtain ⟨E, g, h⟩ := b; rcases h with ⟨_, h⟩ | ⟨_, _, _, h⟩ <;> exact h.elim
 | goto l => obtain ⟨E, g, h⟩ := b; rcases h with ⟨_, h⟩ | ⟨_, _, _, h⟩ <;> exact h.elim
 | panic c => rcases b.2 with ⟨_, h⟩ | ⟨_, _, _, h⟩ <;> exact h.elim
 | outgrown => exact b.elim
end
def FY {σ ρ : Type} (l : Nat) (Lp : Loop) (I : σ → List (Nat × Obj) → Prop) (X : ρ → List (Nat × Obj) → Prop) : σ ⊕ ρ → List (Nat × Obj) → Prop
 | .inl s, R => ∃ R0, R = (l, .loop Lp) :: R0 ∧ I s R0
 | .inr q, R => ∃ R0 r, R = (l, .loop r) :: R0 ∧ r.state = .done ∧ r.pending = some .ret ∧ X q R0
def QM (P : Program) (E : Nat → Value) (o : Oper) (W : World) (K : Value → World → Prop) : Prop := nf P E o W K ∨ Re P E o W K
section
variable [M : Md] {P : Program} {n : Nat} {Q : nM} {E : Nat → Value} {W : World} {ops : Array Oper} {rest : List Oper}
theorem T8 {d t j : Nat} {want : Bool} {ins : Op} {ty : TypeId} {pos : String} {af : Array Edge} (b : (ops[j]?).bind (·.dst) = some t) (a : E t = .bool want) (h : QM P E ⟨some d, ins, ty, pos, af, some (j, want)⟩ W fun v W' => LW P n ops Q rest (nE E d v) W') (i : t < n := by decide) (g : d < n := by decide) : LW P n ops Q (⟨some d, ins, ty, pos, af, some (j, want)⟩ :: rest) E W := by
 rcases h with h | h
 ·exact Lw b a h i g
 ·exact Tm (.inr ⟨j, want, t, rfl, b, i, a⟩) rfl g h
end
def Aj {σ α β : Type} (P : Program) (fv : Value) (μ : jW) (Inv : σ → List (Nat × Obj) → Prop) (Ra : jW → List Value → α → Prop) (a : β → Value) (fs : σ → α → Option (β × σ)) : Prop :=
 (∃ f caps, fv = .func (.func f) #[] caps ∧ (∀ args w, (callFunc f args).run P w = .ok (.enter f args) w) ∧
  ∀ W s x vs r R, jX μ (pS W R) → Inv s R → Ae R W → (R.map (·.1)).Nodup → Ra (pS W R) vs x → fs s x = some r → kR false P f (vs ++ caps.toList) W R (fun v R' _ => v = a r.1 ∧ Inv r.2 R')) ∨
 (∃ l, fv = .func (.yield l) #[] #[] ∧
  ∀ W s x vs r R, jX μ (pS W R) → Inv s R → Ae R W → (R.map (·.1)).Nodup → Ra (pS W R) vs x → fs s x = some r →
   ∃ fn tmps ax body, (Instr.yield l vs.toArray).run P W = .ok (.round l fn tmps ax body) W ∧
    RoundIn Fence.wide 0 P l fn tmps ax body W fun e b => ∃ v R', e = .returned v ∧ ry false R R' W b ∧ v = a r.1 ∧ Inv r.2 R')
section
variable {P : Program} {F : Nat → Prop} {w W : World} {μ : jW} {L : List (Nat × Obj)} {E : Nat → Value} {d : Option Nat} {ty : TypeId} {pos : String} {af : Array Edge} {g : Option (Nat × Bool)}
theorem Aj.fn {σ α β : Type} {f : FuncId} {caps : Array Value} {Inv : σ → List (Nat × Obj) → Prop} {Ra : jW → List Value → α → Prop} {a : β → Value} {fs : σ → α → Option (β × σ)} (b : ∀ args w, (callFunc f args).run P w = .ok (.enter f args) w) (h : ∀ W s x vs r R, jX μ (pS W R) → Inv s R → Ae R W → (R.map (·.1)).Nodup → Ra (pS W R) vs x → fs s x = some r → kR false P f (vs ++ caps.toList) W R (fun v R' _ => v = a r.1 ∧ Inv r.2 R')) : Aj P (.func (.func f) #[] caps) μ Inv Ra a fs := .inl ⟨f, caps, rfl, b, h⟩
theorem Aj.mono {σ α β : Type} {fv : Value} {μ0 : jW} {Inv : σ → List (Nat × Obj) → Prop} {Ra : jW → List Value → α → Prop} {d : β → Value} {fs : σ → α → Option (β × σ)} (h : Aj P fv μ Inv Ra d fs) (b : jX μ μ0) : Aj P fv μ0 Inv Ra d fs := by
 rcases h with ⟨f, caps, h1, a, g⟩ | ⟨l, h1, a⟩
 ·exact .inl ⟨f, caps, h1, a, fun W s x vs r R h => g W s x vs r R (b.trans h)⟩
 ·exact .inr ⟨l, h1, fun W s x vs r R h => a W s x vs r R (b.trans h)⟩
theorem QR {σ α β : Type} {K : Value → World → Prop} {μ0 : jW} {fv : Value} {Inv : σ → List (Nat × Obj) → Prop} {Ra : jW → List Value → α → Prop} {G : β → Value} {fs : σ → α → Option (β × σ)} {j : Operand} {ax : Array Operand} {ats : Array TypeId} (s : σ) (x : α) {vs : List Value} {r : β × σ} {R : List (Nat × Obj)} (L2 : List (Nat × Obj)) (a : ST false F w W μ L) (b : L.Perm (R ++ L2)) (Y : Aj P fv μ0 Inv Ra G fs) (z : jX μ0 μ) (t : Inv s R) (u : jX μ (pS W R) → Ra (pS W R) vs x) (y : jI E j = fv) (ha : ax.map (jI E) ++ (#[] : Array Value) = vs.toArray) (hm : fs s x = some r) (h : ∀ W' μ' R', ST false F w W' μ' (R' ++ L2) → jX μ μ' → Lo F w μ μ' → Inv r.2 R' → K (G r.1) W') : QM P E ⟨d, .call ⟨.value j, ax, ats⟩, ty, pos, af, g⟩ W K := by
 rcases Y with ⟨f, caps, rfl, k, m⟩ | ⟨l, rfl, k⟩
 ·refine .inl (E6 R L2 a b y k ha (fun I a2 a3 _ => (m W s x vs r R (z.trans a3) t I a2 (u a3) hm)) ?_)
  rintro W' v μ' L1 J M O _ ⟨rfl, Q⟩
  exact h W' μ' L1 J M O Q
 ·have p : ax.map (jI E) = vs.toArray := by simpa using ha
  obtain ⟨fn, tmps, i, body, m, T⟩ := k W s x vs r R (z.trans (a.JZ b)) t (a.held b) (a.Mb b) (u (a.JZ b)) hm
  refine .inr ⟨l, fn, tmps, i, body, ?_, RoundIn.mono T ?_⟩
  ·show (do let d ← resolve (jI E) ⟨.value j, ax, ats⟩ ty; invoke d.target d.args : Sem Next).run P W = _
   rw [← m]
   simp [resolve, y, p, Deferred.ofValue, invoke]
  ·rintro e q ⟨v, R', rfl, U, rfl, n⟩
   exact ⟨_, rfl, h q _ R' ((a.perm b).back U) ((a.perm b).Bp q R') ((a.perm b).Ds q R') n⟩
end
def fF := @World.putObj_heap_same
def Ru (K : Value → World → Prop) : nM
 | .ret, _, W => K (.bool false) W
 | _, _, _ => False
def Sq (K : Value → World → Prop) : nM := py (fun _ W => K (.bool true) W) (Ru K)
def Mi (dd : Bool) (P : Program) (n l : Nat) (assign body : Code) (E : Nat → Value) (w : World) (L0 : List (Nat × Obj)) (K : Value → List (Nat × Obj) → World → Prop) : Prop :=
 @CW (GN l) P n assign (py (fun E1 W1 => W1.heap[l]? = w.heap[l]? ∧ ∀ o, @CW (GN l) P n body (Sq fun v W => ∃ L1, ry dd L0 L1 (w.putObj l o) W ∧ K v L1 W) E1 (W1.putObj l o)) (fun _ _ _ => False)) E w
theorem LI {K : Value → World → Prop} {E : Nat → Value} {W : World} (h : K (.bool false) W) : Ru K .ret E W := h
section
variable {dd : Bool} {F : Nat → Prop} {w W : World} {μ : jW} {L : List (Nat × Obj)} {l : Nat}
theorem vE {w : World} {b : Nat} {o : Obj} (h : b ≠ l) : (w.putObj l o).heap[b]? = w.heap[b]? := World.putObj_heap_other h
theorem ST.frame (h : ST dd F w W μ L) (o : Obj) (k : l < w.heap.size) (j : ¬ F l) (hm : μ l = none) : ST dd F (w.putObj l o) (W.putObj l o) μ L := by
 refine ⟨h.os, h.tape, h.output, h.drawn, by simpa using h.size, fun b d m => ?_, fun b x d => ?_, fun b x d => ?_, h.nd⟩
 ·by_cases a : b = l
  ·subst a
   rw [fF (by have := h.size; omega), fF k]
  ·rw [vE a, vE a]
   exact h.mj b (by simpa using d) m
 ·have a : b ≠ l := fun e => by rw [e, hm] at d; cases d
  rw [vE a]; exact h.mem b x d
 ·obtain ⟨h1, i, g⟩ := h.box b x d
  have a : b ≠ l := fun e => by
   subst e
   rcases g with g | g
   ·omega
   ·exact j g
  rw [vE a]
  exact ⟨h1, i, by simpa using g⟩
theorem ry.KW {L0 L1 : List (Nat × Obj)} {o o' Lp : Obj} (h : ry false L0 L1 (w.putObj l o) W) (r : w.heap[l]? = some Lp) (n : ¬ keys L0 l) : W.heap[l]? = some o ∧ ry false ((l, Lp) :: L0) ((l, o') :: L1) w (W.putObj l o') := by
 have j : l < w.heap.size := nv r
 have h1 : W.heap[l]? = some o := by
  rw [h.ex.mj l (by simpa using j) n, fF j]
 have m : w.heap.size ≤ W.heap.size := by have := h.ex.size; simpa using this
 have i : ¬ keys L1 l := by
  rintro ⟨x, a⟩
  rcases (h.held l x a).2 with g | g
  ·simp at g; omega
  ·exact n g
 refine ⟨h1, ⟨h.ex.os, h.ex.tape, h.ex.output, h.ex.drawn, by simpa using m, fun b q hk => ?_⟩, fun b x a => ?_, ?_⟩
 ·have d : b ≠ l := fun e => hk (by subst e; exact ⟨_, gn ..⟩)
  rw [vE d, h.ex.mj b (by simpa using q) (fun ⟨x, a⟩ => hk ⟨x, dq _ a⟩), vE d]
 ·rcases aP.1 a with a | a
  ·cases a
   exact ⟨fF (by omega), .inr ⟨_, gn ..⟩⟩
  ·have d : b ≠ l := fun e => i ⟨x, e ▸ a⟩
   obtain ⟨g, k⟩ := h.held b x a
   rw [vE d]
   refine ⟨g, ?_⟩
   rcases k with k | ⟨y, s⟩
   ·exact .inl (by simpa using k)
   ·exact .inr ⟨y, dq _ s⟩
 ·rw [bH, cV]
  refine ⟨fun hm => ?_, h.nd⟩
  obtain ⟨p, hp, e⟩ := bI.1 hm
  have e' : p.1 = l := e
  exact i ⟨p.2, by rw [← e']; exact hp⟩
end
section
variable {σ ρ α : Type} {P : Program} {n l : Nat} {Lp : Loop} {μ : jW} {I : σ → List (Nat × Obj) → Prop} {X : ρ → List (Nat × Obj) → Prop} {Ra : jW → List Value → α → Prop} {fs : σ → α → Option (σ ⊕ ρ)} {E : Nat → Value}
def Lm (I : σ → List (Nat × Obj) → Prop) (X : ρ → List (Nat × Obj) → Prop) (r : σ ⊕ ρ) (v : Value) (L1 : List (Nat × Obj)) : Prop :=
 match r with
 | .inl s => v = .bool true ∧ I s L1
 | .inr q => v = .bool false ∧ X q L1
theorem Ia {L : List Nat} {assign body : Code} (U : NQ n L assign body E Lp) (aa : ∀ μ vs x, Ra μ vs x → vs.length = L.length) (a7 : ∀ p ∈ L, p < n) (h : ∀ W s x vs r R0 μ', jX μ μ' → μ' l = none → l < W.heap.size → ¬ keys R0 l → I s R0 → ST false (keys R0) W W μ' R0 → Ra μ' vs x → fs s x = some r →
   Mi false P n l assign body (Rt E (L.zip vs)) W R0 (fun v L1 _ => Lm I X r v L1)) :
  Aj P (.func (.yield l) #[] #[]) μ (FY l Lp I X) Ra (fun b => .bool b) (xP fs) := by
 obtain ⟨hr, hp, rfl, rfl, rfl, ht, hE⟩ := U
 refine .inr ⟨l, rfl, fun W s x vs r R hs T hH J k hf => ?_⟩
 cases s with
 | inr q => cases hf
 | inl s =>
  obtain ⟨R0, rfl, T⟩ := T
  simp only [xP, Option.map_eq_some_iff] at hf
  obtain ⟨z, a1, G⟩ := hf
  have w : W.heap[l]? = some (.loop Lp) := hH _ _ (.head _)
  have j : ¬ keys R0 l := by
   rw [bH, cV] at J
   rintro ⟨o, d⟩
   exact J.1 (bI.2 ⟨_, d, rfl⟩)
  have m := Lu (M := GN l) (Lp.params.toList.zip vs) (a := ⟨Lp.tmps, []⟩) (E := E) ⟨ht, rfl, hE⟩ (fun p hp => a7 _ (List.of_mem_zip hp).1)
  refine ⟨_, _, _, _, run_yield w (by simpa using aa _ _ _ k), ?_⟩
  have ez : (Lp.params.zip vs.toArray).foldl (fun tmps (t, a) => tmps.setIfInBounds t a) Lp.tmps = (Lp.params.toList.zip vs).foldl (fun t p => t.setIfInBounds p.1 p.2) Lp.tmps := by
   rw [← Array.foldl_toList]; simp
  rw [ez]
  have a6 : pS W ((l, .loop Lp) :: R0) l = none := by
   unfold pS
   rw [bD ⟨_, gn ..⟩]
  have a8 : jX (pS W ((l, .loop Lp) :: R0)) (pS W R0) := fun b o h1 => by
   unfold pS at h1 ⊢
   split at h1
   ·cases h1
   ·rename_i hk
    rw [bB (fun ⟨y, hy⟩ => hk ⟨y, dq _ hy⟩)]
    exact h1
  have hb := h W s x vs z R0 _ hs a6 (nv w) j T (ST.J5 ⟨fun b o Y => hH b o (dq _ Y), by rw [bH, cV] at J; exact J.2, a8⟩) k a1
  refine RoundIn.mono (ID (K := fun v w' => ∃ R', ry false ((l, .loop Lp) :: R0) R' W w' ∧ v = .bool r.1 ∧ FY l Lp I X r.2 R') m.1 m.2.2 (Cd (M := GN l) hb ?_)) ?_
  ·intro e E1 W1 g
   cases e with
   | normal =>
    obtain ⟨h1, O⟩ := g
    refine ⟨rfl, Lp, h1.trans w, hr, Cd (M := GN l) (O _) ?_⟩
    intro e E3 W3 g
    have u : ∀ b v L1, v = .bool b → Lm I X z v L1 → (b = true ∧ ∃ s', z = .inl s' ∧ I s' L1) ∨ (b = false ∧ ∃ q, z = .inr q ∧ X q L1) := fun b v L1 e d => by
     subst e
     cases z with
     | inl s' => exact .inl ⟨by have := d.1; injection this, s', rfl, d.2⟩
     | inr q => exact .inr ⟨by have := d.1; injection this, q, rfl, d.2⟩
    cases e with
    | normal =>
     obtain ⟨L1, Q, d⟩ := g
     obtain ⟨g1, g2⟩ := Q.KW (o' := .loop Lp) w j
     rcases u _ _ _ rfl d with ⟨_, s', rfl, i⟩ | ⟨Z, _⟩
     ·subst G
      refine ⟨_, g1, (l, .loop Lp) :: L1, ?_, rfl, L1, rfl, i⟩
      obtain ⟨st, pe, c1, c2, c3, c4, c5, c6⟩ := Lp
      simp only at hr hp
      subst hr hp
      exact g2
     ·cases Z
    | ret =>
     obtain ⟨L1, Q, d⟩ := g
     obtain ⟨g1, g2⟩ := Q.KW (o' := .loop { Lp with state := .done, pending := some .ret }) w j
     rcases u _ _ _ rfl d with ⟨Z, _⟩ | ⟨_, q, rfl, i⟩
     ·cases Z
     ·subst G
      exact ⟨_, g1, _, g2, rfl, L1, _, rfl, rfl, rfl, i⟩
    | exit id => exact g.elim
    | goto t => exact g.elim
    | panic c => exact g.elim
    | outgrown => exact g.elim
   | _ => exact g.elim
  ·rintro e w' ⟨v, rfl, R', h1, G, h3⟩
   exact ⟨v, R', rfl, h1, G, h3⟩
end
section
variable {σ ρ : Type} {P : Program} {dd : Bool} {F : Nat → Prop} {w W : World} {μ : jW} {L L2 R' : List (Nat × Obj)} {l d : Nat} {Lp : Loop} {I : σ → List (Nat × Obj) → Prop} {X : ρ → List (Nat × Obj) → Prop} {Q : nM} {E : Nat → Value} {s' : σ ⊕ ρ}
theorem KU (g : Lp.state = .ready) (d : Lp.pending = none) (a : ST dd F w W μ (R' ++ L2)) (b : FY l Lp I X s' R') (i : ∀ s W' R0 o, s' = .inl s → I s R0 → ST dd F w W' μ (R0 ++ ((l, o) :: L2)) → Q .normal E W') (j : ∀ q W' R0 o, s' = .inr q → X q R0 → ST dd F w W' μ (R0 ++ ((l, o) :: L2)) → Q .ret E W') : OI l Q E W := by
 have hp : ∀ (R0 : List (Nat × Obj)) (o : Obj), ((l, o) :: (R0 ++ L2)).Perm (R0 ++ ((l, o) :: L2)) := fun R0 o => List.perm_middle.symm
 cases s' with
 | inl s =>
  obtain ⟨R0, rfl, b⟩ := b
  refine ⟨Lp, (a.box l _ (.head _)).1, by rw [g]; simp, .inl ⟨d, ?_⟩⟩
  exact i s _ R0 _ rfl b ((ST.setBlock (A := []) a (.loop { Lp with state := .exhausted })).perm (hp R0 _))
 | inr q =>
  obtain ⟨R0, r, rfl, h1, h, b⟩ := b
  refine ⟨r, (a.box l _ (.head _)).1, by rw [h1]; simp, .inr (.inl ⟨h, ?_⟩)⟩
  exact j q _ R0 _ rfl b ((ST.setBlock (A := []) a (.loop { r with state := .exhausted })).perm (hp R0 _))
theorem Dh {fn : Func} {R : Ending → World → Prop} {e : Exit} {L' : List (Nat × Obj)} (a : ST dd F w W μ L) (b : L.Perm ((d, .deferred (some [])) :: L')) (h : ∀ W', ST dd F w W' μ ((d, .deferred none) :: L') → uK P fn R e E W') : IN P fn R [{ target := .collected d, args := #[] }] e E W :=
 .inr ⟨d, rfl, ((a.perm b).box d _ (.head _)).1, h _ (ST.setBlock (A := []) (a.perm b) (.deferred none))⟩
theorem MN {fn : Func} {R : Ending → World → Prop} {e : Exit} (h : uK P fn R e E W) : IN P fn R [] e E W := .inl ⟨rfl, h⟩
theorem FG {f : FuncId} {args : List Value} {caps : Array Value} {g : Value} {K : Value → List (Nat × Obj) → World → Prop} {R0 : List (Nat × Obj)} {Z : World → Prop} (a : ST false F w W μ L) (d : L.Perm (R0 ++ L2)) (ha : #[g] ++ caps = args.toArray) (k : Ae R0 W → (R0.map (·.1)).Nodup → jX μ (pS W R0) → (∀ b o, (b, o) ∈ L2 → pS W R0 b = some o) → kR false P f args W R0 K) (h : ∀ W' v μ' L1, ST false F w W' μ' (L1 ++ L2) → jX μ μ' → Lo F w μ μ' → K v L1 W' → Z W') : Calls P f (#[g] ++ caps) W fun e w => (∃ v, e = .returned v) ∧ Z w := by
 rw [ha]
 exact cW (k (a.held d) (a.Mb d) (a.JZ d) (a.HL d)) (fun _ W' ⟨v, L1, h1, i, j⟩ => ⟨⟨v, h1⟩, h W' v _ L1 ((a.perm d).back i) ((a.perm d).Bp W' L1) ((a.perm d).Ds W' L1) j⟩)
end
end Go.Proofs.YtjjjihkifgdhgaaGreat
namespace Go.Proofs.YtjjjihkifgdhgaaGreat
open Go.IntKind renaming wrap → wi0
open Go.Sort Go.Proofs Go.Shelf
theorem F0 {g b : Nat} {o : Obj} : keys [(g, o)] b ↔ b = g := by
 constructor
 ·rintro ⟨o', h⟩
  simp at h
  exact h.1
 ·rintro rfl; exact ⟨o, by simp⟩
theorem BP (w : World) (g m : Nat) (f : Array Value → Array Value) (os : Array Obj) (b : Nat) (d : b < w.heap.size) :
  (Go.Sort.grow (mapBlock (Go.Sort.ahead w m) g f) os).heap[b]? = if g = b then w.heap[b]?.map (onCells f) else w.heap[b]? := by
 have a : b < (mapBlock (Go.Sort.ahead w m) g f).heap.size := by simp only [mapBlock, Go.Sort.ahead, Array.size_modify]; exact d
 rw [heap_grow_old _ _ a]
 simp only [mapBlock, Go.Sort.ahead, dQ]
theorem Kj {w : World} {g m : Nat} {f : Array Value → Array Value} {os : Array Obj} {cs : Array Value} {T : TypeId} {fr : Nat × Nat} (d : w.heap[g]? = some (.cells cs T fr)) :
  ry true [(g, .cells cs T fr)] [(g, .cells (f cs) T fr)] w (Go.Sort.grow (mapBlock (Go.Sort.ahead w m) g f) os) := by
 have a : g < w.heap.size := (dz.1 d).1
 refine ⟨⟨rfl, rfl, rfl, ?_, ?_, fun b i j => ?_⟩, fun b o h => ?_, by simp⟩
 ·refine tO.of ?_
  show w.drawn ≤ w.drawn + m
  omega
 ·show w.heap.size ≤ (w.heap.modify g (onCells f) ++ os).size
  simp
 ·rw [BP _ _ _ _ _ _ i, bB fun h => j (F0.2 h.symm)]
 ·simp only [aP, cO, eZ, Prod.mk.injEq] at h
  obtain ⟨rfl, rfl⟩ := h
  refine ⟨?_, .inr (F0.2 rfl)⟩
  rw [BP _ _ _ _ _ _ a, bD rfl, d]
  rfl
theorem LX {w W : World} (h : Ex true w W) : ∃ q os, W = Go.Sort.grow (w.drewN q) os := by
 refine ⟨W.drawn - w.drawn, W.heap.extract w.heap.size W.heap.size, ?_⟩
 have g : W.heap = w.heap ++ W.heap.extract w.heap.size W.heap.size := by
  apply Array.ext_getElem?
  intro i
  rw [gJ]
  split
  ·rename_i j; exact h.mj i j
  ·rename_i j
   rw [Array.getElem?_extract]
   have l := h.size
   split
   ·rw [show w.heap.size + (i - w.heap.size) = i by omega]
   ·exact Array.getElem?_eq_none (by omega)
 obtain ⟨h1, m, n, p, r⟩ := W
 have a := h.os; have b := h.tape; have d := h.output; have k := h.drawn rfl
 simp only at a b d k g
 unfold Go.Sort.grow World.drewN
 simp only [World.mk.injEq]
 exact ⟨g, b, by omega, a, d⟩
theorem KP {α : Type} [Inhabited α] {enc : α → List Value} {k : Nat} (hk : ∀ x, (enc x).length = k) (l : List α) (j : Nat) (a : j < l.length * k) :
  (l.map enc).flatten[j]? = some ((flatK enc k l.toArray)[j]!) := by
 have g : 0 < k := by
  cases k with
  | zero => simp at a
  | succ n => omega
 have h1 : j / k < l.length := (gK g).2 a
 rw [get_flatK _ _ _ _ (by simpa using a)]
 have h : l.toArray[j / k]! = l[j / k] := by
  rw [getElem!_pos l.toArray (j / k) (by simpa using h1)]; simp
 rw [h]
 have b : j % k < (enc l[j / k]).length := by rw [hk]; exact Nat.mod_lt _ g
 have d := wL hk l (j / k) l[j / k] (cX h1) (j % k) ((enc l[j / k])[j % k]) (cX b)
 rw [Nat.div_add_mod' j k] at d
 rw [d, getElem!_pos (enc l[j / k]) (j % k) b]
theorem Ix {α : Type} [Inhabited α] {enc : α → List Value} {k : Nat} (hk : ∀ x, (enc x).length = k) {w : World} {g : Nat} {cs : Array Value} {T : TypeId} (b : w.heap[g]? = some (.cells cs T (0, 0))) (l : List α)
  (h : cs.toList.take (l.length * k) = (l.map enc).flatten) : HoldsK enc k w g 0 l.toArray := by
 intro j d
 have a : j < l.length * k := by simpa using d
 have h1 := KP hk l j a
 rw [← h, fE, bD a] at h1
 refine ⟨?_, ?_⟩
 ·simp only [World.cell?, b, dV]
  simpa using h1
 ·simp [World.frozen?, b]
theorem Ku {α : Type} [Inhabited α] {enc : α → List Value} {k : Nat} (hk : ∀ x, (enc x).length = k) {cs : Array Value} (l : List α) (b : l.length * k ≤ cs.size) :
  (putCells id 0 (flatK enc k l.toArray) cs).toList.take (l.length * k) = (l.map enc).flatten := by
 apply eK
 intro j
 rw [fE]
 split
 ·rename_i a
  rw [KP hk l j a]
  simp only [putCells, dK, Array.getElem?_mapIdx, size_flatK, dB]
  rw [Array.getElem?_eq_getElem (by omega)]
  simp [a]
 ·rename_i a
  rw [fa (by rw [pZ hk]; omega)]
theorem IL (enc : Value → Value) (o : Nat) (d c : Array Value) : (putCells enc o d c).size = c.size := by simp [putCells]
section
variable {α : Type} {P : Program} {ρ : Ren}
theorem RD {l : List α} {cf : α × α → Option Int} (h : Ei cf l) : SWO (ltOf fun (x y : {x // x ∈ l}) => (cf (x.1, y.1)).getD 0) ∧
  (∀ x y : {x // x ∈ l}, ltOf (fun (x y : {x // x ∈ l}) => (cf (x.1, y.1)).getD 0) x y = uy cf x.1 y.1) := by
 have e : ∀ x y : {x // x ∈ l}, ltOf (fun (x y : {x // x ∈ l}) => (cf (x.1, y.1)).getD 0) x y = uy cf x.1 y.1 := fun x y => by
  obtain ⟨c, g⟩ := h.is x.1 x.2 y.1 y.2
  simp [ltOf, uy, g]
 refine ⟨⟨fun x => ?_, fun x y z => ?_, fun x y z => ?_⟩, e⟩
 ·rw [e]; exact h.irrefl _ x.2
 ·rw [e, e, e]; exact h.trans _ x.2 _ y.2 _ z.2
 ·rw [e, e, e]
  intro h1 b
  cases a : uy cf x.1 z.1 with
  | false => rfl
  | true =>
   cases d : uy cf y.1 x.1 with
   | true =>
    have := h.trans _ y.2 _ x.2 _ z.2 d a
    rw [b] at this; cases this
   | false =>
    have := h.total _ x.2 _ y.2 h1 d
    rw [this, b] at a; cases a
theorem KB (L : SlLaysF0.n6 P ρ) (k : Nat) (aE : ∀ w, (isAgg (ρ.t 24)).run P w = .ok true w) (zE : ∀ w, (Go.sizeOf (ρ.t 24)).run P w = .ok k w) {e : TypeId} (enc : α → List Value) (hk : ∀ x, (enc x).length = k) (h1 : ∀ x, ∀ u ∈ enc x, u.oneCell' = true) {v fv : Value} {l r : List α} {R : List (Nat × Obj)} {cf : α × α → Option Int} {w : World} {μ0 : jW} (hH : Ae (R ++ []) w) (E : jX μ0 (pS w (R ++ []))) (Z : jV e enc k v l R) (hc : JJ P fv μ0 (fun (x : α × α) => [(.agg (enc x.1).toArray), (.agg (enc x.2).toArray)]) (fun (r : Int) => (.int .i64 r)) cf) (hm : zG cf l = some r) :
  kR true P (ρ.f 6) [v, fv] w (R ++ []) (fun u L1 _ => ∃ (S : List (Nat × Obj)), u = (.tuple #[]) ∧ L1 = (S ++ []) ∧ jV e enc k v r S) := by
 obtain ⟨ok, rfl⟩ := G9 hm
 rw [bJ] at hH E ⊢
 rcases eA l.length with h0 | i
 ·have hl : l = [] := aW h0
  subst hl
  have hs : tL cf ([] : List α) = [] := by simp [tL]
  rw [hs]
  obtain ⟨p, c, rfl⟩ : ∃ p c, v = .slice p 0 c := by
   rcases Z with ⟨rfl, _, _⟩ | ⟨g, cap, j, rfl, _⟩
   ·exact ⟨_, _, rfl⟩
   ·exact ⟨_, _, rfl⟩
  refine cW (AnyF.slices_SortFunc_none L p c fv w) fun x w' ⟨hx, hw⟩ => ?_
  subst hx hw
  refine ⟨_, R, rfl, ⟨⟨rfl, rfl, rfl, tO.of (aY _), aY _, fun _ _ _ => rfl⟩, fun b o h => ⟨hH b o h, .inr ⟨o, h⟩⟩, ?_⟩, R, rfl, (bJ R).symm, Z⟩
  rcases Z with ⟨_, _, rfl⟩ | ⟨g, cap, j, _, rfl, _⟩ <;> simp
 ·rcases Z with ⟨_, rfl, _⟩ | ⟨g, cap, j, rfl, rfl, a8, a7, O, ae⟩
  ·simp at i
  have hg : w.heap[g]? = some (.cells j e (0, 0)) := hH g _ (by simp)
  have aa : g < w.heap.size := (dz.1 hg).1
  haveI : Inhabited {x // x ∈ l} := ⟨⟨l[0], List.getElem_mem i⟩⟩
  obtain ⟨gg, caps, rfl, Q, q⟩ := hc
  obtain ⟨hO, T⟩ := RD ok
  have G : l.attach.toArray.size = l.length := by simp
  have ab : l.attach.map (fun x => enc x.1) = l.map enc := by
   rw [show (fun x : {x // x ∈ l} => enc x.1) = enc ∘ Subtype.val from rfl, ← eO, List.attach_map_subtype_val]
  have a1 : HoldsK (fun x : {x // x ∈ l} => enc x.1) k w g 0 l.attach.toArray := Ix (fun x => hk x.1) hg l.attach (by rw [ab, List.length_attach, ae])
  have M : CmpLays P gg caps (fun x : {x // x ∈ l} => enc x.1) k (fun x y => (cf (x.1, y.1)).getD 0) g 0 l.attach.toArray.size w := by
   intro m os dk ag x y
   obtain ⟨c, J⟩ := ok.is x.1 x.2 y.1 y.2
   have Y : jX μ0 (hp (sortWorldK (fun x : {x // x ∈ l} => enc x.1) k w g 0 m dk os)) := fun b o hb => by
    have z := E b o hb
    unfold pS at z
    split at z
    ·cases z
    ·rename_i hn
     have a6 : b < w.heap.size := (dz.1 z).1
     show (Go.Sort.grow (mapBlock (Go.Sort.ahead w m) g _) os).heap[b]? = _
     rw [BP _ _ _ _ _ _ a6, bB fun h => hn (F0.2 h.symm)]
     exact z
   have h3 := q (sortWorldK (fun x : {x // x ∈ l} => enc x.1) k w g 0 m dk os) (x.1, y.1) c Y J
   have ea : ([Value.agg (enc x.1).toArray, Value.agg (enc y.1).toArray] ++ caps.toList).toArray = #[Value.agg (enc x.1).toArray, Value.agg (enc y.1).toArray] ++ caps := by
    apply Array.ext'; simp
   rw [← ea]
   exact cW h3 fun u W' hu => ⟨by rw [hu.1]; show _ = Ending.returned (.int .i64 ((cf (x.1, y.1)).getD 0)); rw [J]; rfl, LX hu.2⟩
  have hT : ∀ x y : {x // x ∈ l}, ltOf (fun (x y : {x // x ∈ l}) => (cf (x.1, y.1)).getD 0) x y = false → ltOf (fun (x y : {x // x ∈ l}) => (cf (x.1, y.1)).getD 0) y x = false → x = y := fun x y a b => by
   rw [T] at a b
   exact Subtype.ext (ok.total _ x.2 _ y.2 a b)
  have d := AnyQ.slices_SortFunc_total L k aE zE (fun x : {x // x ∈ l} => enc x.1) (fun x => hk x.1) (fun x => h1 x.1) (fun x y => (cf (x.1, y.1)).getD 0) hO gg caps g 0 cap l.attach.toArray w Q M a1 aa (by rw [G]; exact ok.short) hT
  rw [G] at d
  refine cW d fun u w' ⟨hu, n, os, hw⟩ => ?_
  subst hu
  generalize hs : l.attach.toArray.toList.mergeSort (fun x y => !ltOf (fun (x y : {x // x ∈ l}) => (cf (x.1, y.1)).getD 0) y x) = s at hw
  have ad : s.map Subtype.val = tL cf l := by
   rw [← hs, iB (s := fun x y => !uy cf y x) (fun a _ b _ => by rw [T])]
   simp [tL]
  have W : s.length = l.length := by rw [← hs, List.length_mergeSort]; simp
  have U : (tL cf l).length = l.length := by simp [tL, List.length_mergeSort]
  have I := Kj (w := w) (m := n) (f := putCells id 0 (flatK (fun x : {x // x ∈ l} => enc x.1) k s.toArray)) (os := os) hg
  have af : w' = Go.Sort.grow (mapBlock (Go.Sort.ahead w n) g (putCells id 0 (flatK (fun x : {x // x ∈ l} => enc x.1) k s.toArray))) os := hw
  rw [← af] at I
  refine ⟨_, _, rfl, I, _, rfl, (bJ _).symm, .inr ⟨g, cap, _, by rw [U], rfl, by omega, a7, by rw [IL, O], ?_⟩⟩
  rw [U, ← W, Ku (fun x => hk x.1) s (by rw [W, O]; exact cM k a8), ← ad, eO]
  rfl
end
theorem Es (b : ByteArray) : b.toList = b.data.toList := by rw [fu]
theorem QK (l : List ByteArray) : (l.map tj).flatten = l.map Value.string := by
 induction l with
 | nil => rfl
 | cons x l ih => simp only [bH, bP, ih]; rfl
theorem N7 (l : List ByteArray) : (vm l).map (fun b => b.data.toList) = (l.map (fun b => b.data.toList)).mergeSort (fun x y => decide (x ≤ y)) := by
 unfold vm
 refine iB fun a _ b _ => ?_
 unfold qe
 rw [bytesLess_eq, Es, Es]
 by_cases h : a.data.toList ≤ b.data.toList
 ·have d : ¬ b.data.toList < a.data.toList := List.not_lt.2 h
  simp [h, d]
 ·have d : b.data.toList < a.data.toList := by
   cases Decidable.em (b.data.toList < a.data.toList) with
   | inl g => exact g
   | inr g => exact absurd (List.not_lt.1 g) h
  simp [h, d]
end Go.Proofs.YtjjjihkifgdhgaaGreat
namespace Go.Proofs.YtjjjihkifgdhgaaGreat
open Go.IntKind renaming wrap → wi0
open Go.WideElems Go.WideShapes Go.Sort Go.Proofs Go.Shelf
theorem Ko {β : Type} {vf : β → Value} {P : Program} {kt : TypeId} (E : P.underlying kt = some .string) {l : List (ByteArray × β)} {es : Array MapEntry} {clock : Nat} (h : uR Value.string vf l es clock) (y : (l.map (·.1)).Nodup) (z : ∀ p ∈ l, p.1.size ≤ maxLen) (w : l.length ≤ maxLen) {W : World} {b : Nat} (u : W.heap[b]? = some (.map es clock)) : ∃ D : DataW Unit, W.ownsMap P kt (fun _ => some (.lit (.bool true), [])) b es.size D ∧ (strKeys D).Perm (l.map (fun p => p.1.data.toList)) ∧ Maps.size D = l.length := by
 have d := h.keys
 have n : ∀ x ∈ es.toList, ∃ s : ByteArray, x.key = .string s ∧ s.size ≤ maxLen := fun x j => by
  have h1 : x.key ∈ es.toList.map (·.key) := bI.2 ⟨x, j, rfl⟩
  rw [d] at h1
  obtain ⟨s, i, k⟩ := bI.1 h1
  obtain ⟨p, r, t⟩ := bI.1 i
  exact ⟨s, k.symm, by rw [← t]; exact z p r⟩
 have g : ∀ x ∈ es.toList, ∃ s : ByteArray, x.key = .string s ∧ Go.WideElems.rd (H := Unit) P kt (fun _ => some (.lit (.bool true), [])) x = some (.string s.data.toList, .lit (.bool true)) := fun x j => by
  obtain ⟨s, h1, i⟩ := n x j
  refine ⟨s, h1, ?_⟩
  simp [Go.WideElems.rd, keyOf, E, mapKey, h1, i]
 refine ⟨_, ⟨es, clock, u, ⟨by rw [h.length]; exact w, ⟨h.lt, ?_, ?_⟩, fun x j => ?_⟩, aY _, rfl⟩, ?_, ?_⟩
 ·have := h.born
  rw [List.Nodup, fQ]
  exact this.imp (fun {a b} h => by omega)
 ·rw [d]
  rw [List.Nodup, fQ]
  exact y.imp (fun {a b} m e => m (by injection e))
 ·obtain ⟨s, _, i⟩ := g x j
  exact ⟨_, i⟩
 ·have h1 := (sorted_perm (es.toList.map (Go.WideElems.rg (H := Unit) P kt (fun _ => some (.lit (.bool true), []))))).map (fun p => strOf p.1)
  refine List.Perm.trans h1 ?_
  have e : (es.toList.map (Go.WideElems.rg (H := Unit) P kt (fun _ => some (.lit (.bool true), [])))).map (fun p => strOf p.1) = l.map (fun p => p.1.data.toList) := by
   have q : (es.toList.map (Go.WideElems.rg (H := Unit) P kt (fun _ => some (.lit (.bool true), [])))).map (fun p => strOf p.1) = (es.toList.map (·.key)).map (fun v => match v with | .string s => s.data.toList | _ => []) := by
    rw [eO, eO]
    refine List.map_congr_left fun x j => ?_
    obtain ⟨s, i, k⟩ := g x j
    simp [Go.WideElems.rg, k, i, strOf]
   rw [q, d, eO, eO]
   rfl
  rw [e]
 ·have h1 := (sorted_perm (es.toList.map (Go.WideElems.rg (H := Unit) P kt (fun _ => some (.lit (.bool true), []))))).length_eq
  show (List.foldr DataW.insert [] _).length = _
  rw [h1, cP, ← h.length]
  simp
theorem IC {l : List ByteArray} {g : List (List UInt8)} (h : g.Perm (l.map fun b => b.data.toList)) : g.mergeSort (fun x y => decide (x ≤ y)) = (vm l).map (fun b => b.data.toList) := by
 rw [N7]
 have le : ∀ a b c : List UInt8, decide (a ≤ b) = true → decide (b ≤ c) = true → decide (a ≤ c) = true := fun a b c h1 d => by
  simp only [bW] at *
  exact List.le_trans h1 d
 have tot : ∀ a b : List UInt8, (decide (a ≤ b) || decide (b ≤ a)) = true := fun a b => by
  simp only [fL, bW]
  exact List.le_total a b
 refine List.Perm.eq_of_pairwise (le := fun a b => decide (a ≤ b) = true) (fun a b _ _ h1 d => List.le_antisymm (by simpa using h1) (by simpa using d)) (gw le tot _) (gw le tot _) ?_
 exact (ic _ _).trans (h.trans (ic _ _).symm)
section
variable {P : Program} {ρk ρt ρm : Ren}
theorem Ki (LK : SlLaysZ.n7 P ρk) (LT : SlLaysZ.n6 P ρt) (LM : SlLaysM.n6 P ρm) (h9 : ρt.f 9 = ρm.f 6) (hK : P.underlying (ρk.t 26) = some .string) (eg : ∀ args w, (callFunc (ρk.f 10) args).run P w = .ok (.enter (ρk.f 10) args) w) (es : ∀ args w, (callFunc (ρt.f 9) args).run P w = .ok (.enter (ρt.f 9) args) w) {β : Type} {vf : β → Value} {l : List (ByteArray × β)} {b : Nat} {mv : Value} {t : TypeId} {W : World} {r : List ByteArray} (z : W.heap[b]? = some (.cells #[mv] t (0, 0))) (hm : uV Value.string vf (hp W) mv l) (hk : Gi l = some r) :
  lC false P (ρt.f 6) [.func (.func (ρk.f 10)) #[] #[.pointer (some ⟨b, 0, none⟩)]] W (ρt.t 26) tj 1 r := by
 unfold Gi at hk
 split at hk
 case isFalse => cases hk
 rename_i hc
 obtain ⟨Y, Z, a1⟩ := hc
 cases hk
 have j : b < W.heap.size := (dz.1 z).1
 have d : W.cell? ⟨b, 0, none⟩ = some mv := by simp [World.cell?, z]
 have s : AnyZ.SortsIn P ρt Fence.wide 4 :=
  ⟨fun Q off cap i W hH hblk u => gz.2 (by rw [h9]; exact AnyM.slices_Sort_string LM Q off cap i W hH hblk u), fun p cap W => gz.2 (by rw [h9]; exact AnyM.slices_Sort_string_none LM p cap W)⟩
 have M : SeqGives Fence.wide 2 P (ρk.f 10) #[.pointer (some ⟨b, 0, none⟩)] encStr (fun i => i.Perm ((l.map (·.1)).map fun b => b.data.toList)) l.length W := by
  rcases hm with ⟨rfl, rfl⟩ | ⟨m, es, clock, rfl, a8, G⟩
  ·have := AnyZ.keys_gives_nil (ρ := ρk) { LK with } Fence.wide 2 trivial rfl b W j d
   intro l' J W' T R U O
   refine CallsIn.mono (this l' J W' T R U O) ?_
   rintro e w' ⟨hv, i, rfl, hj⟩
   exact ⟨hv, [], bT _, hj⟩
  ·obtain ⟨D, I, q, u⟩ := Ko hK G Y Z (by unfold maxLen; omega) a8
   have := AnyZ.keys_gives (ρ := ρk) { LK with } Fence.wide 2 trivial rfl (by omega) b m es.size D W j d I
   intro l' J W' T R U O
   refine CallsIn.mono (this l' J W' T R (by rw [u]; exact U) O) ?_
   rintro e w' ⟨hv, i, hp, hj⟩
   refine ⟨hv, i, ?_, hj⟩
   rw [eO]
   exact hp.trans q
 have cS := AnyZ.sorted_in LT Fence.wide 5 trivial trivial trivial trivial rfl (by omega) s es (ρk.f 10) #[.pointer (some ⟨b, 0, none⟩)] trivial eg _ l.length (by unfold maxLen; omega) a1 W M
 refine cW (gz.1 cS) ?_
 rintro e w' ⟨v, i, rfl, hS, L, ab, a⟩
 have hs := IC hS
 have hlen : i.length = (vm (l.map (·.1))).length := by
  have := bN List.length hs
  simpa using this
 have n : (i.mergeSort (fun x y => decide (x ≤ y))).map encStr = ((vm (l.map (·.1))).map tj).flatten := by
  rw [hs, QK, eO]
  refine List.map_congr_left (fun x _ => ?_)
  simp only [Function.comp, encStr]
 rcases L.2 with ⟨rfl, O⟩ | ⟨g, cap, E, rfl, k, hg, ad, a6, a7, aa⟩
 ·have : vm (l.map (·.1)) = [] := aW (by omega)
  rw [this]
  exact ⟨_, [], rfl, ry.IP ⟨a.os, a.tape, a.output, fun h => (by cases h), a.size, fun b z => a.block b z⟩ (fun _ _ h => by cases h) (by simp), jV.nil _ _ _⟩
 ·refine ⟨_, [(g, .cells E (ρt.t 26) (0, 0))], rfl, ry.IP ⟨a.os, a.tape, a.output, fun h => (by cases h), a.size, fun b z => a.block b z⟩ (fun b o h => by simp at h; obtain ⟨rfl, rfl⟩ := h; exact ⟨hg, k⟩) (by simp), .inr ⟨g, cap, E, by rw [hlen], rfl, by omega, a6, a7, ?_⟩⟩
  rw [← hlen, aa, n]
end
end Go.Proofs.YtjjjihkifgdhgaaGreat
namespace Go.Proofs.YtjjjihkifgdhgaaGreat
open Go.IntKind renaming wrap → wi0
def fX := @Tryz.underlying9
def gm := @Tryz.zeroValue9
def gP := @Tryz.underlying0
def gY := @Tryz.zeroValue0
def ij := @Tryz.sizeOf9
def iC := @Tryz.underlying112
def iJ := @Tryz.isAgg9
def iK := @Tryz.zeroValue112
def iU := @Tryz.underlying4
def iY := @Tryz.sizeOf0
def jf := @Tryz.zeroValue4
def ji := @Tryz.isAgg0
def Py : Go.Shelf.Ren := ⟨fun | 6 => 48 | 15 => 78 | 14 => 77 | 28 => 110 | 29 => 111 | 20 => 102 | 21 => 103 | 22 => 104 | 23 => 105 | 24 => 106 | 25 => 107 | 26 => 108 | 27 => 109 | 46 => 137 | 47 => 138 | 48 => 139 | 49 => 140 | 50 => 141 | 57 => 155 | n => n, fun | 22 => 42 | 24 => 49 | 25 => 76 | 3 => 3 | 39 => 127 | 0 => 0 | 53 => 163 | 55 => 165 | 4 => 4 | 46 => 157 | 45 => 156 | 50 => 50 | 5 => 5 | 9 => 9 | 66 => 188 | 70 => 192 | 76 => 203 | 77 => 137 | n => n, fun | n => n⟩
theorem SU : Go.Proofs.SlLaysF0.n6 Tryz.prog Py := {
 mixed := by kernel_rfl,
 f6 := ⟨Tryz.f48.name, by decide, Tryz.func48.trans (bN some (by kernel_rfl))⟩,
 f14 := ⟨Tryz.f77.name, by decide, Tryz.func77.trans (bN some (by kernel_rfl))⟩,
 f15 := Tryz.func78.trans (bN some (by kernel_rfl)),
 f20 := ⟨Tryz.f102.name, by decide, Tryz.func102.trans (bN some (by kernel_rfl))⟩,
 f21 := ⟨Tryz.f103.name, by decide, Tryz.func103.trans (bN some (by kernel_rfl))⟩,
 f22 := ⟨Tryz.f104.name, by decide, Tryz.func104.trans (bN some (by kernel_rfl))⟩,
 f23 := ⟨Tryz.f105.name, by decide, Tryz.func105.trans (bN some (by kernel_rfl))⟩,
 f24 := ⟨Tryz.f106.name, by decide, Tryz.func106.trans (bN some (by kernel_rfl))⟩,
 f25 := ⟨Tryz.f107.name, by decide, Tryz.func107.trans (bN some (by kernel_rfl))⟩,
 f26 := ⟨Tryz.f108.name, by decide, Tryz.func108.trans (bN some (by kernel_rfl))⟩,
 f27 := ⟨Tryz.f109.name, by decide, Tryz.func109.trans (bN some (by kernel_rfl))⟩,
 f28 := Tryz.func110.trans (bN some (by kernel_rfl)),
 f29 := Tryz.func111.trans (bN some (by kernel_rfl)),
 f46 := ⟨Tryz.f137.name, by decide, Tryz.func137.trans (bN some (by kernel_rfl))⟩,
 f47 := Tryz.func138.trans (bN some (by kernel_rfl)),
 f48 := Tryz.func139.trans (bN some (by kernel_rfl)),
 f49 := ⟨Tryz.f140.name, by decide, Tryz.func140.trans (bN some (by kernel_rfl))⟩,
 f50 := ⟨Tryz.f141.name, by decide, Tryz.func141.trans (bN some (by kernel_rfl))⟩,
 f57 := ⟨Tryz.f155.name, by decide, Tryz.func155.trans (bN some (by kernel_rfl))⟩,
 t0 := gP,
 a0 := ji,
 z0 := iY,
 v0 := gY,
 t3 := Tryz.underlying3,
 a3 := Tryz.isAgg3,
 z3 := Tryz.sizeOf3,
 v3 := Tryz.zeroValue3,
 t4 := iU,
 a4 := Tryz.isAgg4,
 z4 := Tryz.sizeOf4,
 v4 := jf,
 t5 := Tryz.underlying5,
 a5 := Tryz.isAgg5,
 z5 := Tryz.sizeOf5,
 v5 := Tryz.zeroValue5,
 t9 := fX,
 a9 := iJ,
 z9 := ij,
 v9 := gm,
 t22 := Tryz.underlying42,
 a22 := Tryz.isAgg42,
 z22 := Tryz.sizeOf42,
 v22 := Tryz.zeroValue42,
 t25 := Tryz.underlying76,
 a25 := Tryz.isAgg76,
 z25 := Tryz.sizeOf76,
 v25 := Tryz.zeroValue76,
 t39 := Tryz.underlying127,
 a39 := Tryz.isAgg127,
 z39 := Tryz.sizeOf127,
 v39 := Tryz.zeroValue127,
 t45 := Tryz.underlying156,
 a45 := Tryz.isAgg156,
 z45 := Tryz.sizeOf156,
 v45 := Tryz.zeroValue156,
 t46 := Tryz.underlying157,
 a46 := Tryz.isAgg157,
 z46 := Tryz.sizeOf157,
 v46 := Tryz.zeroValue157,
 t50 := Tryz.underlying50,
 a50 := Tryz.isAgg50,
 z50 := Tryz.sizeOf50,
 v50 := Tryz.zeroValue50,
 t53 := Tryz.underlying163,
 a53 := Tryz.isAgg163,
 z53 := Tryz.sizeOf163,
 v53 := Tryz.zeroValue163,
 t55 := Tryz.underlying165,
 a55 := Tryz.isAgg165,
 z55 := Tryz.sizeOf165,
 v55 := Tryz.zeroValue165,
 t66 := Tryz.underlying188,
 a66 := Tryz.isAgg188,
 z66 := Tryz.sizeOf188,
 v66 := Tryz.zeroValue188,
 t70 := Tryz.underlying192,
 a70 := Tryz.isAgg192,
 z70 := Tryz.sizeOf192,
 v70 := Tryz.zeroValue192,
 t76 := Tryz.underlying203,
 a76 := Tryz.isAgg203,
 z76 := Tryz.sizeOf203,
 v76 := Tryz.zeroValue203,
 t77 := Tryz.underlying137,
 a77 := Tryz.isAgg137,
 z77 := Tryz.sizeOf137,
 v77 := Tryz.zeroValue137}
def RK : Go.Shelf.Ren := ⟨fun | 6 => 169 | 8 => 78 | 9 => 176 | 19 => 110 | 20 => 111 | 21 => 179 | 22 => 180 | 23 => 181 | 24 => 182 | 25 => 183 | 26 => 184 | 27 => 185 | 28 => 186 | 29 => 187 | 36 => 191 | 31 => 138 | 32 => 139 | 37 => 192 | 38 => 193 | 39 => 194 | 41 => 197 | n => n, fun | 27 => 112 | 29 => 9 | 3 => 3 | 32 => 127 | 26 => 112 | 0 => 0 | 44 => 163 | 46 => 165 | 4 => 4 | 36 => 157 | 35 => 156 | 41 => 50 | 5 => 5 | 9 => 9 | 53 => 188 | 57 => 192 | 63 => 203 | 64 => 137 | n => n, fun | n => n⟩
theorem RZ : Go.Proofs.SlLaysM.n6 Tryz.prog RK := {
 mixed := by kernel_rfl,
 f6 := ⟨Tryz.f169.name, by decide, Tryz.func169.trans (bN some (by kernel_rfl))⟩,
 f8 := Tryz.func78.trans (bN some (by kernel_rfl)),
 f9 := ⟨Tryz.f176.name, by decide, Tryz.func176.trans (bN some (by kernel_rfl))⟩,
 f19 := Tryz.func110.trans (bN some (by kernel_rfl)),
 f20 := Tryz.func111.trans (bN some (by kernel_rfl)),
 f21 := ⟨Tryz.f179.name, by decide, Tryz.func179.trans (bN some (by kernel_rfl))⟩,
 f22 := ⟨Tryz.f180.name, by decide, Tryz.func180.trans (bN some (by kernel_rfl))⟩,
 f23 := ⟨Tryz.f181.name, by decide, Tryz.func181.trans (bN some (by kernel_rfl))⟩,
 f24 := ⟨Tryz.f182.name, by decide, Tryz.func182.trans (bN some (by kernel_rfl))⟩,
 f25 := ⟨Tryz.f183.name, by decide, Tryz.func183.trans (bN some (by kernel_rfl))⟩,
 f26 := ⟨Tryz.f184.name, by decide, Tryz.func184.trans (bN some (by kernel_rfl))⟩,
 f27 := ⟨Tryz.f185.name, by decide, Tryz.func185.trans (bN some (by kernel_rfl))⟩,
 f28 := ⟨Tryz.f186.name, by decide, Tryz.func186.trans (bN some (by kernel_rfl))⟩,
 f29 := ⟨Tryz.f187.name, by decide, Tryz.func187.trans (bN some (by kernel_rfl))⟩,
 f31 := Tryz.func138.trans (bN some (by kernel_rfl)),
 f32 := Tryz.func139.trans (bN some (by kernel_rfl)),
 f36 := ⟨Tryz.f191.name, by decide, Tryz.func191.trans (bN some (by kernel_rfl))⟩,
 f37 := ⟨Tryz.f192.name, by decide, Tryz.func192.trans (bN some (by kernel_rfl))⟩,
 f38 := ⟨Tryz.f193.name, by decide, Tryz.func193.trans (bN some (by kernel_rfl))⟩,
 f39 := ⟨Tryz.f194.name, by decide, Tryz.func194.trans (bN some (by kernel_rfl))⟩,
 f41 := ⟨Tryz.f197.name, by decide, Tryz.func197.trans (bN some (by kernel_rfl))⟩,
 t0 := gP,
 a0 := ji,
 z0 := iY,
 v0 := gY,
 t3 := Tryz.underlying3,
 a3 := Tryz.isAgg3,
 z3 := Tryz.sizeOf3,
 v3 := Tryz.zeroValue3,
 t4 := iU,
 a4 := Tryz.isAgg4,
 z4 := Tryz.sizeOf4,
 v4 := jf,
 t5 := Tryz.underlying5,
 a5 := Tryz.isAgg5,
 z5 := Tryz.sizeOf5,
 v5 := Tryz.zeroValue5,
 t9 := fX,
 a9 := iJ,
 z9 := ij,
 v9 := gm,
 t26 := iC,
 a26 := Tryz.isAgg112,
 z26 := Tryz.sizeOf112,
 v26 := iK,
 t27 := iC,
 a27 := Tryz.isAgg112,
 z27 := Tryz.sizeOf112,
 v27 := iK,
 t29 := fX,
 a29 := iJ,
 z29 := ij,
 v29 := gm,
 t32 := Tryz.underlying127,
 a32 := Tryz.isAgg127,
 z32 := Tryz.sizeOf127,
 v32 := Tryz.zeroValue127,
 t35 := Tryz.underlying156,
 a35 := Tryz.isAgg156,
 z35 := Tryz.sizeOf156,
 v35 := Tryz.zeroValue156,
 t36 := Tryz.underlying157,
 a36 := Tryz.isAgg157,
 z36 := Tryz.sizeOf157,
 v36 := Tryz.zeroValue157,
 t41 := Tryz.underlying50,
 a41 := Tryz.isAgg50,
 z41 := Tryz.sizeOf50,
 v41 := Tryz.zeroValue50,
 t44 := Tryz.underlying163,
 a44 := Tryz.isAgg163,
 z44 := Tryz.sizeOf163,
 v44 := Tryz.zeroValue163,
 t46 := Tryz.underlying165,
 a46 := Tryz.isAgg165,
 z46 := Tryz.sizeOf165,
 v46 := Tryz.zeroValue165,
 t53 := Tryz.underlying188,
 a53 := Tryz.isAgg188,
 z53 := Tryz.sizeOf188,
 v53 := Tryz.zeroValue188,
 t57 := Tryz.underlying192,
 a57 := Tryz.isAgg192,
 z57 := Tryz.sizeOf192,
 v57 := Tryz.zeroValue192,
 t63 := Tryz.underlying203,
 a63 := Tryz.isAgg203,
 z63 := Tryz.sizeOf203,
 v63 := Tryz.zeroValue203,
 t64 := Tryz.underlying137,
 a64 := Tryz.isAgg137,
 z64 := Tryz.sizeOf137,
 v64 := Tryz.zeroValue137}
def PL : Go.Shelf.Ren := ⟨fun | 7 => 157 | 10 => 170 | n => n, fun | 23 => 136 | 26 => 9 | 3 => 4 | 28 => 207 | 0 => 0 | 27 => 206 | 33 => 103 | 4 => 4 | n => n, fun | n => n⟩
theorem QG : Go.Proofs.SlLaysZ.n7 Tryz.prog PL := {
 mixed := by kernel_rfl,
 f7 := ⟨Tryz.f157.name, by decide, Tryz.func157.trans (bN some (by kernel_rfl))⟩,
 f10 := ⟨Tryz.f170.name, by decide, Tryz.func170.trans (bN some (by kernel_rfl))⟩,
 t0 := gP,
 a0 := ji,
 z0 := iY,
 v0 := gY,
 t4 := iU,
 a4 := Tryz.isAgg4,
 z4 := Tryz.sizeOf4,
 v4 := jf,
 t23 := Tryz.underlying136,
 a23 := Tryz.isAgg136,
 z23 := Tryz.sizeOf136,
 v23 := Tryz.zeroValue136,
 t26 := fX,
 a26 := iJ,
 z26 := ij,
 v26 := gm,
 t27 := Tryz.underlying206,
 a27 := Tryz.isAgg206,
 z27 := Tryz.sizeOf206,
 v27 := Tryz.zeroValue206,
 t28 := Tryz.underlying207,
 a28 := Tryz.isAgg207,
 z28 := Tryz.sizeOf207,
 v28 := Tryz.zeroValue207,
 t33 := Tryz.underlying103,
 a33 := Tryz.isAgg103,
 z33 := Tryz.sizeOf103,
 v33 := Tryz.zeroValue103}
def PZ : Go.Shelf.Ren := ⟨fun | 6 => 156 | 8 => 168 | 9 => 169 | 11 => 175 | 13 => 78 | 12 => 176 | 23 => 110 | 24 => 111 | 14 => 179 | 15 => 180 | 16 => 181 | 17 => 182 | 18 => 183 | 19 => 184 | 20 => 185 | 21 => 186 | 22 => 187 | 25 => 191 | 26 => 138 | 27 => 139 | 28 => 192 | 29 => 193 | 30 => 194 | 31 => 197 | n => n, fun | 26 => 9 | 28 => 207 | 24 => 112 | 0 => 0 | 3 => 3 | 37 => 127 | 48 => 163 | 50 => 165 | 4 => 4 | 40 => 157 | 39 => 156 | 45 => 50 | 5 => 5 | 9 => 9 | 51 => 188 | 55 => 192 | 57 => 203 | 58 => 137 | 33 => 103 | n => n, fun | n => n⟩
theorem Qp : Go.Proofs.SlLaysZ.n6 Tryz.prog PZ := {
 mixed := by kernel_rfl,
 f6 := ⟨Tryz.f156.name, by decide, Tryz.func156.trans (bN some (by kernel_rfl))⟩,
 f8 := ⟨Tryz.f168.name, by decide, Tryz.func168.trans (bN some (by kernel_rfl))⟩,
 f11 := ⟨Tryz.f175.name, by decide, Tryz.func175.trans (bN some (by kernel_rfl))⟩,
 t0 := gP,
 a0 := ji,
 z0 := iY,
 v0 := gY,
 t24 := iC,
 a24 := Tryz.isAgg112,
 z24 := Tryz.sizeOf112,
 v24 := iK,
 t26 := fX,
 a26 := iJ,
 z26 := ij,
 v26 := gm,
 t28 := Tryz.underlying207,
 a28 := Tryz.isAgg207,
 z28 := Tryz.sizeOf207,
 v28 := Tryz.zeroValue207,
 i26 := by kernel_rfl}
end Go.Proofs.YtjjjihkifgdhgaaGreat
namespace Go.Proofs.YtjjjihkifgdhgaaGreat
open Go.IntKind renaming wrap → wi0
open Go.RowKit
set_option maxRecDepth 10000
noncomputable section
structure jr where
 ju : ByteArray
 jy : ByteArray
def jA (x : jr) : List Value := [.string x.ju, .string x.jy]
def jQ (x y : jr) : Bool := (kU x.ju y.ju) && ((kU x.jy y.jy) && true)
theorem jR {x y : jr} : jQ x y = true ↔ x = y := by
 cases x; cases y; simp [jQ, mg]
theorem yt (x : jr) : (jA x).length = 2 := rfl
theorem vZ (x : jr) : ∀ u ∈ jA x, u.oneCell' = true := by
 intro u hu
 simp only [jA, aP, cO, eZ] at hu
 rcases hu with rfl | rfl <;> rfl
structure js where
 Kind : Int
 Head : jr
 kE : ByteArray
 B : jr
 C : jr
 kM : ByteArray
def jw (x : js) : List Value := [.int .i64 x.Kind, .string x.Head.ju, .string x.Head.jy, .string x.kE, .string x.B.ju, .string x.B.jy, .string x.C.ju, .string x.C.jy, .string x.kM]
def lD (x y : js) : Bool := (x.Kind == y.Kind) && ((jQ x.Head y.Head) && ((kU x.kE y.kE) && ((jQ x.B y.B) && ((jQ x.C y.C) && ((kU x.kM y.kM) && true)))))
theorem nN {x y : js} : lD x y = true ↔ x = y := by
 cases x; cases y; simp [lD, mg, jR]
theorem kc (x : js) : (jw x).length = 9 := rfl
theorem mH (x : js) : ∀ u ∈ jw x, u.oneCell' = true := by
 intro u hu
 simp only [jw, aP, cO, eZ] at hu
 rcases hu with rfl | rfl | rfl | rfl | rfl | rfl | rfl | rfl | rfl <;> rfl
structure jM where
 jr : jr
 kE : ByteArray
def kq (x : jM) : List Value := [.string x.jr.ju, .string x.jr.jy, .string x.kE]
def AD (x y : jM) : Bool := (jQ x.jr y.jr) && ((kU x.kE y.kE) && true)
theorem zt {x y : jM} : AD x y = true ↔ x = y := by
 cases x; cases y; simp [AD, mg, jR]
theorem qu (x : jM) : (kq x).length = 3 := rfl
theorem zf (x : jM) : ∀ u ∈ kq x, u.oneCell' = true := by
 intro u hu
 simp only [kq, aP, cO, eZ] at hu
 rcases hu with rfl | rfl | rfl <;> rfl
structure kT where
 nT : Int
 nD : Int
def lP (x : kT) : List Value := [.int .i64 x.nT, .int .i64 x.nD]
def Gq (x y : kT) : Bool := (x.nT == y.nT) && ((x.nD == y.nD) && true)
theorem Di (x : kT) : (lP x).length = 2 := rfl
theorem GD (x : kT) : ∀ u ∈ lP x, u.oneCell' = true := by
 intro u hu
 simp only [lP, aP, cO, eZ] at hu
 rcases hu with rfl | rfl <;> rfl
structure kG where
 e : Int
def lB (x : kG) : List Value := [.int .i64 x.e]
structure kY where
 O0 : Bool
def mo (x : kY) : List Value := [.bool x.O0]
structure Key where
 kE : ByteArray
 Key : List Int
structure Signed where
 js : js
 Tag : List Int
structure Formula where
 Op : Int
 K : Int
 jr : jr
 Kids : List Formula
structure kD where
 Signed : Signed
 jB : Formula
structure nF where
 jr : jr
 jB : Formula
 mu : List js
structure kL where
 Name : ByteArray
 jN : List kD
 ky : List nF
structure na where
 ju : kL
 Client : kL
 Formula : Formula
 uY : Int
 nu : kT
 pa : Int
 sH : Int
 qp : Int
 Keys : List Key
def oB (a0 : ByteArray) (a : Int) : Option Int :=
 some (xl a0 a)
def rI (a0 : ByteArray) (a : Int) : Option Int :=
 ((oB a0 a).bind fun b => some b)
def vl  : List Int → Option Bool
 | [] => some true
 | d :: a => ((rI (⟨#[97, 98, 99, 100, 101, 102, 103, 104, 105, 106, 107, 108, 109, 110, 111, 112, 113, 114, 115, 116, 117, 118, 119, 120, 121, 122, 48, 49, 50, 51, 52, 53, 54, 55, 56, 57, 45]⟩ : ByteArray) d).bind fun b => (if (decide (b < 0)) then some false else (vl a)))
def BL (a0 : ByteArray) : Option Bool :=
 ((CB a0).bind fun a => vl a)
def sD (a0 : ByteArray) : Option Bool :=
 ((if (decide ((a0.size : Int) ≥ 1)) then some (decide ((a0.size : Int) ≤ 16)) else some false).bind fun x2 => ((if x2 then ((Ak a0 0).bind fun a => ((rI (⟨#[97, 98, 99, 100, 101, 102, 103, 104, 105, 106, 107, 108, 109, 110, 111, 112, 113, 114, 115, 116, 117, 118, 119, 120, 121, 122]⟩ : ByteArray) (a.toNat : Int)).bind fun d => some (decide (d ≥ 0)))) else some false).bind fun g => ((if g then ((BL a0).bind fun b => some b) else some false).bind fun h => some h)))
def uu (a0 : List Int) : Option (List Int) :=
 ((mn 1 ([]) a0).bind fun a => some a)
def qa (a0 : jr) : Option Bool :=
 ((sD a0.ju).bind fun d => ((if d then ((sD a0.jy).bind fun a => some a) else some false).bind fun b => some b))
def ns (a0 a : ByteArray) : Option Int :=
 some (ph a0 a)
def pH (a0 a : ByteArray) : Option Int :=
 ((ns a0 a).bind fun b => some b)
def sJ  : List Int → Option Int
 | [] => some 0
 | a :: b => (if (a != 0) then some a else (sJ b))
def uZ (a0 : List Int) : Option Int :=
 sJ a0
def rV (a0 g : jr) : Option Int :=
 ((pH a0.ju g.ju).bind fun a => ((pH a0.jy g.jy).bind fun b => ((uZ ([a, b])).bind fun d => some d)))
def tW (a0 : js) : Option Bool :=
 ((qa a0.Head).bind fun y => (((if (a0.Kind == 1) then ((if y then ((sD a0.kE).bind fun b => some b) else some false).bind fun p => some (Sum.inr (p, (⟨a0.Kind, a0.Head, a0.kE, (⟨zS, zS⟩ : jr), (⟨zS, zS⟩ : jr), zS⟩ : js)))) else (if (a0.Kind == 2) then ((if y then ((qa a0.B).bind fun d => some d) else some false).bind fun q => some (Sum.inr (q, (⟨a0.Kind, a0.Head, zS, a0.B, (⟨zS, zS⟩ : jr), zS⟩ : js)))) else (if (a0.Kind == 3) then ((if y then ((qa a0.B).bind fun h => some h) else some false).bind fun r => ((if r then some (kU a0.B.ju a0.Head.ju) else some false).bind fun t => ((if t then ((sD a0.kM).bind fun g => some g) else some false).bind fun u => some (Sum.inr (u, (⟨a0.Kind, a0.Head, zS, a0.B, (⟨zS, zS⟩ : jr), a0.kM⟩ : js)))))) else (if (a0.Kind == 4) then ((if y then ((qa a0.B).bind fun k => some k) else some false).bind fun v => ((if v then ((qa a0.C).bind fun j => some j) else some false).bind fun w => ((if w then ((rV a0.B a0.C).bind fun i => some (decide (i < 0))) else some false).bind fun x => some (Sum.inr (x, (⟨a0.Kind, a0.Head, zS, a0.B, a0.C, zS⟩ : js)))))) else some (Sum.inl false))))) : Option (Bool ⊕ (Bool × js))).bind fun s => match s with | .inl a => some a | .inr (l, m) => ((if l then some (lD m a0) else some false).bind fun n => some n)))
def pX  : Nat → Int → (List Int) → Option (Bool × (List Int))
 | 0, _, _ => none
 | h + 1, a, d => (if (decide (a ≥ 128)) then ((mn 1 d ([(IntKind.u8.wrap (BitVec.ofInt (IntKind.bits .u8) (IntKind.u8.wrap a) ||| BitVec.ofInt (IntKind.bits .u8) 128).toNat)])).bind fun g => (pX h (Int.fdiv a (2 ^ min (Int.toNat 7) (IntKind.bits .i64))) g)) else ((mn 1 d ([(IntKind.u8.wrap a)])).bind fun b => some (true, b)))
def nV (a : List Int) (b : Int) : Option (Bool × (List Int)) :=
 (if (decide (b < 0)) then some (false, a) else pX kd b a)
def xz (a b : List Int) : Option (Bool × (List Int)) :=
 (if (decide ((b.length : Int) > 2048)) then some (false, a) else ((nV a (b.length : Int)).bind fun g => ((mn 1 g.2 b).bind fun d => some (true, d))))
def tV (a : List Int) (i : ByteArray) : Option (Bool × (List Int)) :=
 ((sD i).bind fun j => (((if j then ((CB i).bind fun g => ((xz a g).bind fun b => some (b.1, b.2))) else some (false, a)) : Option (Bool × (List Int))).bind fun (h, d) => some (h, d)))
def pY (a : List Int) (h : jr) : Option (Bool × (List Int)) :=
 ((qa h).bind fun l => (((if l then ((tV a h.ju).bind fun g => some (g.1, g.2)) else some (false, a)) : Option (Bool × (List Int))).bind fun (j, b) => (((if j then ((tV b h.jy).bind fun d => some (d.1, d.2)) else some (false, b)) : Option (Bool × (List Int))).bind fun (k, i) => some (k, i))))
def tU (a : List Int) : Option (List Int) :=
 ((uu a).bind fun b => some b)
def wJ (a0 : js) : Option (List Int) :=
 ((tW a0).bind fun m => (if (!m) then some [] else ((nV ([]) a0.Kind).bind fun n => ((pY n.2 a0.Head).bind fun a => (((if (a0.Kind == 1) then ((tV a.2 a0.kE).bind fun g => some g.2) else (if (a0.Kind == 2) then ((pY a.2 a0.B).bind fun h => some h.2) else (if (a0.Kind == 3) then ((pY a.2 a0.B).bind fun i => ((tV i.2 a0.kM).bind fun j => some j.2)) else (if (a0.Kind == 4) then ((pY a.2 a0.B).bind fun k => ((pY k.2 a0.C).bind fun l => some l.2)) else some a.2)))) : Option (List Int)).bind fun b => ((tU b).bind fun d => some d))))))
def rE (a0 : List js) : Option (List js) :=
 ((mn 136 ([]) a0).bind fun a => some a)
def oH (f1 : js → Option Bool) : List js → Nat → Option Int
 | [], _ => some (-1)
 | d :: a, i35 => ((f1 d).bind fun b => (if b then some (i35 : Int) else (oH f1 a (i35 + 1))))
def uj (a0 : List js) (f1 : js → Option Bool) : Option Int :=
 oH f1 a0 0
def nx (f1 : js → Option Bool) : Nat → (List js) → Int → Int → Option (List js)
 | 0, _, _, _ => none
 | n321 + 1, b, a, d => (if (decide (d < (b.length : Int))) then ((((lE b d).bind fun g => ((f1 g).bind fun i => (if (!i) then ((lE b a).bind fun k => some ((b.set (Int.toNat a) g), (wi0 .i64 (a + 1)))) else some (b, a)))) : Option ((List js) × Int)).bind fun (h, j) => (nx f1 n321 h j (wi0 .i64 (d + 1)))) else ((rF (decide (0 ≤ a) && decide (a ≤ (b.length : Int)))).bind fun _ => ((rF (decide (0 ≤ a) && decide (a ≤ ((oI b (Int.toNat a) (⟨0, (⟨zS, zS⟩ : jr), zS, (⟨zS, zS⟩ : jr), (⟨zS, zS⟩ : jr), zS⟩ : js)).length : Int)))).bind fun _ => some ((oI b (Int.toNat a) (⟨0, (⟨zS, zS⟩ : jr), zS, (⟨zS, zS⟩ : jr), (⟨zS, zS⟩ : jr), zS⟩ : js)).take (Int.toNat a)))))
def pk (a0 : List js) (f1 : js → Option Bool) : Option (List js) :=
 ((uj a0 f1).bind fun a => (if (a == (-1)) then some a0 else nx f1 kd a0 a (wi0 .i64 (a + 1))))
def xR (a0 : js) : Option Bool :=
 ((tW a0).bind fun a => some (!a))
def wy (a0 a : List Int) : Option Int :=
 some (yj a0 a)
def tJ (a0 g : js) : Option Int :=
 ((wJ a0).bind fun a => ((wJ g).bind fun b => ((wy a b).bind fun d => some d)))
def nY (b : Int) : Nat → (List js) → Int → Int → Option ((List js) × Int)
 | 0, _, _, _ => none
 | i + 1, a, d, g => (if (decide (g < ((a.length - (Int.toNat b) : Nat) : Int))) then ((((lE (a.drop (Int.toNat b)) g).bind fun k => ((lE (a.drop (Int.toNat b)) (wi0 .i64 (g - 1))).bind fun l => (if (!(lD k l)) then ((lE (a.drop (Int.toNat b)) g).bind fun m => ((lE a d).bind fun n => some ((a.set (Int.toNat d) m), (wi0 .i64 (d + 1))))) else some (a, d)))) : Option ((List js) × Int)).bind fun (h, j) => (nY b i h j (wi0 .i64 (g + 1)))) else some (a, d))
def og (a0 : List js) : Nat → Int → Option (List js)
 | 0, _ => none
 | g + 1, a => (if (decide (a < (a0.length : Int))) then ((lE a0 a).bind fun h => ((lE a0 (wi0 .i64 (a - 1))).bind fun i => (if (lD h i) then ((rF (decide (0 ≤ a) && decide (a ≤ (a0.length : Int)))).bind fun _ => ((nY a kd a0 a 1).bind fun (d, b) => ((rF (decide (0 ≤ b) && decide (b ≤ (d.length : Int)))).bind fun _ => ((rF (decide (0 ≤ b) && decide (b ≤ ((oI d (Int.toNat b) (⟨0, (⟨zS, zS⟩ : jr), zS, (⟨zS, zS⟩ : jr), (⟨zS, zS⟩ : jr), zS⟩ : js)).length : Int)))).bind fun _ => some ((oI d (Int.toNat b) (⟨0, (⟨zS, zS⟩ : jr), zS, (⟨zS, zS⟩ : jr), (⟨zS, zS⟩ : jr), zS⟩ : js)).take (Int.toNat b)))))) else (og a0 g (wi0 .i64 (a + 1)))))) else some a0)
def sM (a0 : List js) : Option (List js) :=
 (if (decide ((a0.length : Int) < 2)) then some a0 else og a0 kd 1)
def uD (a0 : List js) : Option (List js) :=
 ((rE a0).bind fun g => ((pk g (fun (x : js) => xR x)).bind fun a => ((zG (fun (x : (js × js)) => tJ x.1 x.2) a).bind fun b => ((sM b).bind fun d => some d))))
def pU (d : js) : List js → Nat → Option Int
 | [], _ => some (-1)
 | b :: a, i46 => (if (lD d b) then some (i46 : Int) else (pU d a (i46 + 1)))
def wg (a0 : List js) (a : js) : Option Int :=
 pU a a0 0
def si (a0 : List js) (a : js) : Option Bool :=
 ((wg a0 a).bind fun b => some (decide (b ≥ 0)))
def pB (a0 : List js) (a : js) : Option Bool :=
 ((si a0 a).bind fun b => some b)
def yL (a0 : js) : Option (List jr) :=
 ((tW a0).bind fun h => (if (!h) then some [] else (((if (a0.Kind != 1) then ((mn 32 ([a0.Head]) ([a0.B])).bind fun g => some g) else some ([a0.Head])) : Option (List jr)).bind fun a => (((if (a0.Kind == 4) then ((mn 32 a ([a0.C])).bind fun d => some d) else some a) : Option (List jr)).bind fun b => some b))))
def oy (i : js) (a : List (ByteArray × (List js))) (g : List js) : List jr → (List (jr × (List js))) → Option ((List js) × (List (jr × (List js))) × (List (ByteArray × (List js))))
 | [], b => (if (i.Kind == 3) then ((mn 136 ((kZ kU a i.kM).getD []) ([i])).bind fun k => some (g, b, (nZ kU a i.kM k))) else some (g, b, a))
 | d :: h, b => ((mn 136 ((kZ jQ b d).getD []) ([i])).bind fun j => (oy i a g h (nZ jQ b d j)))
def tu (i : List (jr × (List (ByteArray × Bool)))) (a : List js) (d : List (jr × (List js))) (b : List (ByteArray × (List js))) (g : List jM) (l : Int) (j : js) : Option ((List js) × (List (jr × (List js))) × (List (ByteArray × (List js)))) :=
 ((mn 136 a ([j])).bind fun k => ((yL j).bind fun h => ((rF (decide (0 ≤ 1) && decide (1 ≤ (h.length : Int)))).bind fun _ => oy j b k (h.drop (Int.toNat 1)) d)))
def nI (a : List (jr × (List (ByteArray × Bool)))) (g : List js) (i : List (jr × (List js))) (h : List (ByteArray × (List js))) (b : List jM) (d : Int) (j : jr) (a2 : ByteArray) : Option ((List (jr × (List (ByteArray × Bool)))) × (List jM) × Int) :=
 (if (zH kU ((kZ jQ a j).getD []) a2 false) then some (a, b, d) else (((if (kZ jQ a j).isNone then ((Ga jQ a j ([])).bind fun k => some k) else some a) : Option (List (jr × (List (ByteArray × Bool))))).bind fun l => ((FQ jQ kU l j a2 true).bind fun m => ((mn 48 b ([(⟨j, a2⟩ : jM)])).bind fun n => some (m, n, (wi0 .i64 (d + 1)))))))
def oL (a0 : List (ByteArray × Bool)) : Option Unit :=
 some ()
def qw (a : List (jr × (List (ByteArray × Bool)))) (b : List js) (h : List (jr × (List js))) (d : List (ByteArray × (List js))) (g : List jM) (j : Int) (k : jr) : Option (List ByteArray) :=
 ((oL ((kZ jQ a k).getD [])).bind fun l => ((Gi ((kZ jQ a k).getD [])).bind fun i => some i))
def pV (a : List js) (d : List (jr × (List js))) (b : List (ByteArray × (List js))) (a2 : jr) : List ByteArray → (List (jr × (List (ByteArray × Bool)))) → (List jM) → Int → Option ((List (jr × (List (ByteArray × Bool)))) × (List jM) × Int)
 | [], g, h, j => some (g, h, j)
 | l :: k, g, h, j => ((nI g a d b h j a2 l).bind fun i => (pV a d b a2 k i.1 i.2.1 i.2.2))
def uh (h : List (jr × (List (ByteArray × Bool)))) (a : List js) (g : List (jr × (List js))) (b : List (ByteArray × (List js))) (d : List jM) (i : Int) (j a2 : jr) : Option ((List (jr × (List (ByteArray × Bool)))) × (List jM) × Int) :=
 ((qw h a g b d i j).bind fun k => pV a g b a2 k h d i)
def rC (a : List (jr × (List (ByteArray × Bool)))) (d : List js) (h : List (jr × (List js))) (g : List (ByteArray × (List js))) (b : List jM) (i : Int) (j : js) (a2 : jM) : Option ((List (jr × (List (ByteArray × Bool)))) × (List jM) × Int) :=
 (if (j.Kind == 2) then ((nI a d h g b i j.Head a2.kE).bind fun m => some (m.1, m.2.1, m.2.2)) else (if (j.Kind == 3) then ((uh a d h g b i (⟨a2.kE, j.kM⟩ : jr) j.Head).bind fun k => some (k.1, k.2.1, k.2.2)) else (if (j.Kind == 4) then ((if (zH kU ((kZ jQ a j.B).getD []) a2.kE false) then some (zH kU ((kZ jQ a j.C).getD []) a2.kE false) else some false).bind fun n => (if n then ((nI a d h g b i j.Head a2.kE).bind fun l => some (l.1, l.2.1, l.2.2)) else some (a, b, i))) else some (a, b, i))))
def pf (a : List js) (d : List (jr × (List js))) (b : List (ByteArray × (List js))) (m : js) : List ByteArray → (List (jr × (List (ByteArray × Bool)))) → (List jM) → Int → Option ((List (jr × (List (ByteArray × Bool)))) × (List jM) × Int)
 | [], g, h, j => some (g, h, j)
 | l :: k, g, h, j => ((rC g a d b h j m (⟨m.B, l⟩ : jM)).bind fun i => (pf a d b m k i.1 i.2.1 i.2.2))
def sK (h : List (jr × (List (ByteArray × Bool)))) (a : List js) (g : List (jr × (List js))) (b : List (ByteArray × (List js))) (d : List jM) (i : Int) (j : js) : Option ((List (jr × (List (ByteArray × Bool)))) × (List jM) × Int) :=
 (if (j.Kind == 1) then ((nI h a g b d i j.Head j.kE).bind fun l => some (l.1, l.2.1, l.2.2)) else ((qw h a g b d i j.B).bind fun k => pf a g b j k h d i))
def nQ (i : jM) (a : List js) (d : List (jr × (List js))) (b : List (ByteArray × (List js))) : List js → (List (jr × (List (ByteArray × Bool)))) → (List jM) → Int → Option ((List (jr × (List (ByteArray × Bool)))) × (List jM) × Int)
 | [], g, h, j => some (g, h, j)
 | m :: l, g, h, j => (if (zH kU ((kZ jQ g m.B).getD []) i.jr.ju false) then ((nI g a d b h j m.Head i.kE).bind fun k => (nQ i a d b l k.1 k.2.1 k.2.2)) else (nQ i a d b l g h j))
def oU (a : List js) (d : List (jr × (List js))) (b : List (ByteArray × (List js))) (k : jM) : List js → (List (jr × (List (ByteArray × Bool)))) → (List jM) → Int → Option ((List (jr × (List (ByteArray × Bool)))) × (List jM) × Int)
 | [], g, h, j => some (g, h, j)
 | m :: l, g, h, j => ((rC g a d b h j m k).bind fun i => (oU a d b k l i.1 i.2.1 i.2.2))
def nj (d : List js) (b : List (jr × (List js))) (a : List (ByteArray × (List js))) : Nat → (List (jr × (List (ByteArray × Bool)))) → (List jM) → Int → Option ((List (jr × (List (ByteArray × Bool)))) × (List jM) × Int)
 | 0, _, _, _ => none
 | p + 1, i, g, j => (if (decide ((g.length : Int) > 0)) then ((lE g 0).bind fun h => ((rF (decide (0 ≤ 1) && decide (1 ≤ (g.length : Int)))).bind fun _ => ((oU d b a h ((kZ jQ b h.jr).getD []) i (g.drop (Int.toNat 1)) j).bind fun (k, l, q) => ((nQ h d b a ((kZ kU a h.jr.jy).getD []) k l q).bind fun (m, n, r) => (nj d b a p m n r))))) else some (i, g, j))
def uJ (h : List (jr × (List (ByteArray × Bool)))) (a : List js) (g : List (jr × (List js))) (b : List (ByteArray × (List js))) (d : List jM) (i : Int) : Option ((List (jr × (List (ByteArray × Bool)))) × (List jM) × Int) :=
 nj a g b kd h d i
def nK (m : Int) : List js → (List (jr × (List (ByteArray × Bool)))) → (List js) → (List (jr × (List js))) → (List (ByteArray × (List js))) → (List jM) → Int → Option (Int × (List (jr × (List (ByteArray × Bool)))) × (List js) × (List (jr × (List js))) × (List (ByteArray × (List js))) × (List jM) × Int)
 | [], d, a, g, h, i, j => ((uJ d a g h i j).bind fun k => some ((wi0 .i64 (k.2.2 - m)), k.1, a, g, h, k.2.1, k.2.2))
 | l :: p, d, a, g, h, i, j => ((tW l).bind fun q => ((if q then ((pB a l).bind fun r => some (!r)) else some false).bind fun s => (if s then ((tu d a g h i j l).bind fun b => ((sK d b.1 b.2.1 b.2.2 i j l).bind fun n => (nK m p n.1 b.1 b.2.1 b.2.2 n.2.1 n.2.2))) else (nK m p d a g h i j))))
def uf (h : List (jr × (List (ByteArray × Bool)))) (a : List js) (g : List (jr × (List js))) (b : List (ByteArray × (List js))) (d : List jM) (i : Int) (j : List js) : Option (Int × (List (jr × (List (ByteArray × Bool)))) × (List js) × (List (jr × (List js))) × (List (ByteArray × (List js))) × (List jM) × Int) :=
 nK i j h a g b d i
def wW (a0 : List js) : Option ((List (jr × (List (ByteArray × Bool)))) × (List js) × (List (jr × (List js))) × (List (ByteArray × (List js))) × (List jM) × Int) :=
 ((uf ([]) ([]) ([]) ([]) ([]) 0 a0).bind fun a => some (a.2.1, a.2.2.1, a.2.2.2.1, a.2.2.2.2.1, a.2.2.2.2.2.1, a.2.2.2.2.2.2))
def qb (a0 g : jM) : Option Int :=
 ((rV a0.jr g.jr).bind fun a => ((pH a0.kE g.kE).bind fun b => ((uZ ([a, b])).bind fun d => some d)))
def we (d : List (jr × (List (ByteArray × Bool)))) (g : List js) (j : List (jr × (List js))) (h : List (ByteArray × (List js))) (i : List jM) (l : Int) : Option (List jM) :=
 ((NG 48 (fun (a : jr) (b : ByteArray) => (⟨a, b⟩ : jM)) d).bind fun fs => Ez fs (fun k => ((zG (fun (x : (jM × jM)) => qb x.1 x.2) k).bind fun m => some m)))
def tT (a : List (jr × (List (ByteArray × Bool)))) (b : List js) (h : List (jr × (List js))) (d : List (ByteArray × (List js))) (g : List jM) (i : Int) (j : jr) (a2 : ByteArray) : Option Bool :=
 some (zH kU ((kZ jQ a j).getD []) a2 false)
def rK  : List js → Int → Option Int
 | [], b => some b
 | a :: d, b => (rK d (wi0 .i64 (b + (wi0 .i64 ((wi0 .i64 ((wi0 .i64 ((wi0 .i64 ((wi0 .i64 ((wi0 .i64 ((wi0 .i64 ((wi0 .i64 (20 + (a.Head.ju.size : Int))) + (a.Head.jy.size : Int))) + (a.kE.size : Int))) + (a.B.ju.size : Int))) + (a.B.jy.size : Int))) + (a.C.ju.size : Int))) + (a.C.jy.size : Int))) + (a.kM.size : Int))))))
def vL (a0 : List js) : Option Int :=
 rK a0 0
def rS  : List Signed → Int → Option Int
 | [], a => some a
 | b :: d, a => ((vL ([b.js])).bind fun g => (rS d (wi0 .i64 (a + (wi0 .i64 (g + (b.Tag.length : Int)))))))
def qk (h : List Signed) : List Key → Int → Option Int
 | [], a => ((rS h a).bind fun b => some b)
 | d :: g, a => (qk h g (wi0 .i64 (a + (wi0 .i64 ((wi0 .i64 (10 + (d.kE.size : Int))) + (d.Key.length : Int))))))
def uq (a0 : List Key) (a : List Signed) : Option Int :=
 qk a a0 0
def qg (a0 : ByteArray) : Nat → Int → Option Bool
 | 0, _ => none
 | d + 1, b => (if (decide (b < (a0.size : Int))) then ((Ak a0 b).bind fun a => ((if (decide ((a.toNat : Int) < 97)) then some true else some (decide ((a.toNat : Int) > 122))).bind fun g => ((if g then ((if (decide ((a.toNat : Int) < 48)) then some true else some (decide ((a.toNat : Int) > 57))).bind fun j => some j) else some false).bind fun h => ((if h then some ((a.toNat : Int) != 45) else some false).bind fun i => (if i then some false else (qg a0 d (wi0 .i64 (b + 1)))))))) else some true)
def rn (a0 : ByteArray) : Option Bool :=
 ((if (kU a0 zS) then some true else some (decide ((a0.size : Int) > 16))).bind fun x2 => ((if x2 then some true else ((Ak a0 0).bind fun b => some (decide ((b.toNat : Int) < 97)))).bind fun d => ((if d then some true else ((Ak a0 0).bind fun a => some (decide ((a.toNat : Int) > 122)))).bind fun g => (if g then some false else qg a0 kd 0))))
def sT (a0 : jr) : Option Bool :=
 ((rn a0.ju).bind fun d => ((if d then ((rn a0.jy).bind fun a => some a) else some false).bind fun b => some b))
def wG (a0 a : jr) : Option Bool :=
 ((if (qe a0.ju a.ju) then some true else ((if (kU a0.ju a.ju) then some (qe a0.jy a.jy) else some false).bind fun d => some d)).bind fun b => some b)
def vS (a0 : js) : Option Bool :=
 ((sT a0.Head).bind fun t => (if (!t) then some false else (if (a0.Kind == 1) then ((rn a0.kE).bind fun i => ((if i then some (jQ a0.B (⟨zS, zS⟩ : jr)) else some false).bind fun k => ((if k then some (jQ a0.C (⟨zS, zS⟩ : jr)) else some false).bind fun l => ((if l then some (kU a0.kM zS) else some false).bind fun m => some m)))) else ((if (!(kU a0.kE zS)) then some true else ((sT a0.B).bind fun d => some (!d))).bind fun n => (if n then some false else (if (a0.Kind == 2) then ((if (jQ a0.C (⟨zS, zS⟩ : jr)) then some (kU a0.kM zS) else some false).bind fun p => some p) else (if (a0.Kind == 3) then ((if (jQ a0.C (⟨zS, zS⟩ : jr)) then some (kU a0.B.ju a0.Head.ju) else some false).bind fun q => ((if q then ((rn a0.kM).bind fun j => some j) else some false).bind fun r => some r)) else ((if (a0.Kind == 4) then some (kU a0.kM zS) else some false).bind fun s => ((if s then ((sT a0.C).bind fun b => some b) else some false).bind fun g => ((if g then ((wG a0.B a0.C).bind fun a => some a) else some false).bind fun h => some h))))))))))
def tf  : Nat → Int → ByteArray → Option ByteArray
 | 0, _, _ => none
 | n45 + 1, a, b => (if (decide (a ≥ 128)) then ((wD b (DU ([(IntKind.u8.wrap (wi0 .i64 (128 + (Int.tmod a 128))))]))).bind fun d => (tf n45 (wi0 .i64 (Int.tdiv a 128)) d)) else ((wD b (DU ([(IntKind.u8.wrap a)]))).bind fun g => some g))
def qx (a0 : Int) : Option ByteArray :=
 tf kd a0 zS
def tY (a0 : ByteArray) : Option ByteArray :=
 ((qx (a0.size : Int)).bind fun a => ((wD a a0).bind fun b => some b))
def sU (a0 : jr) : Option ByteArray :=
 ((tY a0.ju).bind fun a => ((tY a0.jy).bind fun b => ((wD a b).bind fun d => some d)))
def Ab (a0 : js) : Option ByteArray :=
 ((qx a0.Kind).bind fun g => ((sU a0.Head).bind fun h => ((wD g h).bind fun a => (if (a0.Kind == 1) then ((tY a0.kE).bind fun i => ((wD a i).bind fun m => some m)) else ((sU a0.B).bind fun j => ((wD a j).bind fun b => (((if (a0.Kind == 3) then ((tY a0.kM).bind fun l => ((wD b l).bind fun p => some p)) else some b) : Option ByteArray).bind fun d => (((if (a0.Kind == 4) then ((sU a0.C).bind fun k => ((wD d k).bind fun n => some n)) else some d) : Option ByteArray).bind fun q => some q))))))))
def vK (a0 : js) : Option ByteArray :=
 ((vS a0).bind fun a => (if (!a) then some zS else ((Ab a0).bind fun b => some b)))
def sO (a0 d : js) : Option Int :=
 ((vK a0).bind fun a => ((vK d).bind fun b => (if (qe a b) then some (-1) else (if (!(qe a b || kU a b)) then some 1 else some 0))))
def rO (a : List js) : List js → Bool → js → Option (Bool × js)
 | [], d, g => some (d, g)
 | b :: h, d, g => ((vS b).bind fun i => ((if i then ((if ((a.length : Int) == 0) then some true else ((lE a (wi0 .i64 ((a.length : Int) - 1))).bind fun q => ((sO q b).bind fun k => some (decide (k < 0))))).bind fun p => some p) else some false).bind fun l => ((if l then ((if (!d) then some true else ((sO b g).bind fun j => some (decide (j < 0)))).bind fun n => some n) else some false).bind fun m => (if m then (rO a h true b) else (rO a h d g)))))
def tI (a0 : List js) : Nat → (List js) → Option (List js)
 | 0, _ => none
 | d + 1, a => ((rO a a0 false (⟨0, (⟨zS, zS⟩ : jr), zS, (⟨zS, zS⟩ : jr), (⟨zS, zS⟩ : jr), zS⟩ : js)).bind fun (g, h) => (if (!g) then some a else ((mn 136 a ([h])).bind fun b => (tI a0 d b))))
def xK (a0 : List js) : Option (List js) :=
 tI a0 kd ([])
def uG (g : List js) : List js → Nat → Option Bool
 | [], _ => some true
 | d :: b, i90 => ((lE g (i90 : Int)).bind fun a => (if (!(lD d a)) then some false else (uG g b (i90 + 1))))
def wE (a0 a : List js) : Option Bool :=
 (if ((a0.length : Int) != (a.length : Int)) then some false else uG a a0 0)
def wZ (d : js) : List js → Option Bool
 | [] => some false
 | b :: a => (if (lD b d) then some true else (wZ d a))
def xH (a0 : List js) (a : js) : Option Bool :=
 wZ a a0
def rW (a : List ByteArray) : List ByteArray → ByteArray → Option ByteArray
 | [], d => some d
 | b :: g, d => ((rn b).bind fun i => ((if i then ((if ((a.length : Int) == 0) then some true else ((lE a (wi0 .i64 ((a.length : Int) - 1))).bind fun h => some (!(qe b h || kU b h)))).bind fun m => some m) else some false).bind fun j => ((if j then ((if (kU d zS) then some true else some (qe b d)).bind fun l => some l) else some false).bind fun k => (if k then (rW a g b) else (rW a g d)))))
def tK (a0 : List ByteArray) : Nat → (List ByteArray) → Option (List ByteArray)
 | 0, _ => none
 | g + 1, a => ((rW a a0 zS).bind fun b => (if (kU b zS) then some a else ((mn 16 a ([b])).bind fun d => (tK a0 g d))))
def zu (a0 : List ByteArray) : Option (List ByteArray) :=
 tK a0 kd ([])
def rZ  : List js → (List ByteArray) → Option (List ByteArray)
 | [], b => ((zu b).bind fun g => some g)
 | a :: h, b => ((mn 16 b ([a.kE, a.Head.ju, a.B.ju, a.C.ju])).bind fun d => (rZ h d))
def xM (a0 : List js) : Option (List ByteArray) :=
 rZ a0 ([])
def vJ (g : jr) (a2 : ByteArray) : List jM → Option Bool
 | [] => some false
 | b :: d => ((if (jQ b.jr g) then some (kU b.kE a2) else some false).bind fun a => (if a then some true else (vJ g a2 d)))
def uE (a0 : List jM) (a : jr) (a2 : ByteArray) : Option Bool :=
 vJ a a2 a0
def uA (a0 : List jM) (i : js) (a3 : ByteArray) : List ByteArray → Option Bool
 | [] => some false
 | a :: b => ((uE a0 i.B a).bind fun d => ((if d then ((uE a0 (⟨a, i.kM⟩ : jr) a3).bind fun g => some g) else some false).bind fun h => (if h then some true else (uA a0 i a3 b))))
def yR (a0 : List jM) (a : js) (a2 : List ByteArray) (a3 : ByteArray) : Option Bool :=
 (if (a.Kind == 1) then some (kU a.kE a3) else (if (a.Kind == 2) then ((uE a0 a.B a3).bind fun g => some g) else (if (a.Kind == 4) then ((uE a0 a.B a3).bind fun h => ((if h then ((uE a0 a.C a3).bind fun b => some b) else some false).bind fun d => some d)) else uA a0 a a3 a2)))
def tN (a0 a : jM) : Option Bool :=
 ((wG a0.jr a.jr).bind fun g => ((if g then some true else ((if (jQ a0.jr a.jr) then some (qe a0.kE a.kE) else some false).bind fun d => some d)).bind fun b => some b))
def oS (b a0 : List jM) : List jM → Nat → Int → Option Int
 | [], _, a => some a
 | h :: g, d, a => ((if ((b.length : Int) == 0) then some true else ((lE b (wi0 .i64 ((b.length : Int) - 1))).bind fun p => ((tN p h).bind fun j => some j))).bind fun k => ((if k then ((if (decide (a < 0)) then some true else ((lE a0 a).bind fun n => ((tN h n).bind fun i => some i))).bind fun m => some m) else some false).bind fun l => (if l then (oS b a0 g (d + 1) (d : Int)) else (oS b a0 g (d + 1) a))))
def oR (a0 : List jM) : List jM → (List jM) → Option (List jM)
 | [], a => some a
 | i :: d, a => ((oS a a0 a0 0 (-1)).bind fun b => (if (decide (b ≥ 0)) then ((lE a0 b).bind fun h => ((mn 48 a ([h])).bind fun g => (oR a0 d g))) else (oR a0 d a)))
def zm (a0 : List jM) : Option (List jM) :=
 oR a0 a0 ([])
def ur (b : js) (m : List ByteArray) : List ByteArray → (List jM) → Bool → Option ((List jM) × Bool)
 | [], a, g => some (a, g)
 | d :: h, a, g => ((uE a b.Head d).bind fun j => ((if (!j) then ((yR a b m d).bind fun k => some k) else some false).bind fun l => (if l then ((mn 48 a ([(⟨b.Head, d⟩ : jM)])).bind fun i => (ur b m h i true)) else (ur b m h a g))))
def vU (j : List ByteArray) : List js → (List jM) → Bool → Option ((List jM) × Bool)
 | [], a, b => some (a, b)
 | h :: d, a, b => ((ur h j j a b).bind fun (g, i) => (vU j d g i))
def ul (i : List ByteArray) (j : List js) : Nat → (List jM) → Option (List jM)
 | 0, _ => none
 | b + 1, h => ((vU i j h false).bind fun (a, g) => (if (!g) then ((zm a).bind fun d => some d) else (ul i j b a)))
def wV (a0 : List js) : Option (List jM) :=
 ((xK a0).bind fun b => ((xM b).bind fun a => ul a b kd ([])))
def vj (a0 : List js) (b : ByteArray) : Option ((List (jr × (List (ByteArray × Bool)))) × (List js) × (List (jr × (List js))) × (List (ByteArray × (List js))) × (List jM) × Int × ByteArray) :=
 ((wW a0).bind fun a => some (a.1, a.2.1, a.2.2.1, a.2.2.2.1, a.2.2.2.2.1, a.2.2.2.2.2, b))
def ng (f1 : kD → Option Bool) : List kD → Nat → Option Int
 | [], _ => some (-1)
 | d :: a, i47 => ((f1 d).bind fun b => (if b then some (i47 : Int) else (ng f1 a (i47 + 1))))
def sV (a0 : List kD) (f1 : kD → Option Bool) : Option Int :=
 ng f1 a0 0
def wo (a0 : kD) (a : js) : Option Bool :=
 some (lD a0.Signed.js a)
def yH (a0 : kL) (d : js) : Option (kD × Bool) :=
 ((sV a0.jN (fun (x : kD) => wo x d)).bind fun a => (if (decide (a < 0)) then some ((⟨(⟨(⟨0, (⟨zS, zS⟩ : jr), zS, (⟨zS, zS⟩ : jr), (⟨zS, zS⟩ : jr), zS⟩ : js), []⟩ : Signed), (⟨0, 0, (⟨zS, zS⟩ : jr), []⟩ : Formula)⟩ : kD), false) else ((lE a0.jN a).bind fun b => some (b, true))))
def uF (a0 : List nF) : Option (List nF) :=
 ((mn 128 ([]) a0).bind fun a => some a)
def nR (f1 : nF → Option Bool) : List nF → Nat → Option Int
 | [], _ => some (-1)
 | d :: a, i47 => ((f1 d).bind fun b => (if b then some (i47 : Int) else (nR f1 a (i47 + 1))))
def uO (a0 : List nF) (f1 : nF → Option Bool) : Option Int :=
 nR f1 a0 0
def nG (f1 : nF → Option Bool) : Nat → (List nF) → Int → Int → Option (List nF)
 | 0, _, _, _ => none
 | i + 1, b, a, d => (if (decide (d < (b.length : Int))) then ((((lE b d).bind fun g => ((f1 g).bind fun j => (if (!j) then ((lE b a).bind fun l => some ((b.set (Int.toNat a) g), (wi0 .i64 (a + 1)))) else some (b, a)))) : Option ((List nF) × Int)).bind fun (h, k) => (nG f1 i h k (wi0 .i64 (d + 1)))) else ((rF (decide (0 ≤ a) && decide (a ≤ (b.length : Int)))).bind fun _ => ((rF (decide (0 ≤ a) && decide (a ≤ ((oI b (Int.toNat a) (⟨(⟨zS, zS⟩ : jr), (⟨0, 0, (⟨zS, zS⟩ : jr), []⟩ : Formula), []⟩ : nF)).length : Int)))).bind fun _ => some ((oI b (Int.toNat a) (⟨(⟨zS, zS⟩ : jr), (⟨0, 0, (⟨zS, zS⟩ : jr), []⟩ : Formula), []⟩ : nF)).take (Int.toNat a)))))
def rA (a0 : List nF) (f1 : nF → Option Bool) : Option (List nF) :=
 ((uO a0 f1).bind fun a => (if (a == (-1)) then some a0 else nG f1 kd a0 a (wi0 .i64 (a + 1))))
def sa (a0 : nF) (a : js) : Option Bool :=
 ((pB a0.mu a).bind fun b => some (!b))
def xU (a0 : kL) (b : js) : Option (List nF) :=
 ((uF a0.ky).bind fun d => ((rA d (fun (x : nF) => sa x b)).bind fun a => some a))
def pt (h : Int) (rec : Formula → Int → Option (Int × Int)) : List Formula → Int → Int → Option (Int × Int)
 | [], a, d => some (a, d)
 | i :: g, a, d => (if (decide (a > h)) then some (a, d) else ((rec i (wi0 .i64 (h - a))).bind fun b => (pt h rec g (wi0 .i64 (a + b.1)) (if b.2 > d then b.2 else d))))
def vz (rec : Formula → Int → Option (Int × Int)) (a0 : Formula) (d : Int) : Option (Int × Int) :=
 ((pt d rec a0.Kids 1 0).bind fun (a, b) => some (a, (wi0 .i64 (b + 1))))
def oh : Nat → Formula → Int → Option (Int × Int)
 | 0 => fun _ _ => none
 | n + 1 => vz (oh n)
def xd (a0 : Formula) : Option (Int × Int) :=
 ((oh kd a0 4096).bind fun a => (if (decide (a.1 > 4096)) then some (0, 0) else some (a.1, a.2)))
def xb (a0 : Formula) : Option Bool :=
 (if (a0.Op == 1) then ((qa a0.jr).bind fun g => ((if g then some ((a0.Kids.length : Int) == 0) else some false).bind fun h => ((if h then some (a0.K == 0) else some false).bind fun i => some i))) else ((if (a0.Op == 2) then some (a0.Op == 2) else some (a0.Op == 3)).bind fun j => (if j then ((if (jQ a0.jr (⟨zS, zS⟩ : jr)) then some (a0.K == 0) else some false).bind fun k => some k) else ((if (a0.Op == 4) then some (jQ a0.jr (⟨zS, zS⟩ : jr)) else some false).bind fun l => ((if l then some (decide (a0.K ≥ 0)) else some false).bind fun a => ((if a then some (decide (a0.K ≤ (a0.Kids.length : Int))) else some false).bind fun b => ((if b then some (decide ((a0.Kids.length : Int) ≥ 1)) else some false).bind fun d => some d)))))))
def nh (f1 : Formula → Option Bool) : List Formula → Nat → Option Int
 | [], _ => some (-1)
 | d :: a, i41 => ((f1 d).bind fun b => (if b then some (i41 : Int) else (nh f1 a (i41 + 1))))
def sS (a0 : List Formula) (f1 : Formula → Option Bool) : Option Int :=
 nh f1 a0 0
def nS (a0 : List Formula) (f1 : Formula → Option Bool) : Option Bool :=
 ((sS a0 f1).bind fun a => some (decide (a ≥ 0)))
def uz (rec : Formula → Option Bool) (a0 : Formula) : Option Bool :=
 ((rec a0).bind fun a => some (!a))
def vB (rec : Formula → Option Bool) (a0 : Formula) : Option Bool :=
 ((xb a0).bind fun d => ((if d then some (decide ((a0.Kids.length : Int) ≤ 8)) else some false).bind fun g => ((if g then ((nS a0.Kids (fun (x : Formula) => uz rec x)).bind fun a => some (!a)) else some false).bind fun b => some b)))
def qZ : Nat → Formula → Option Bool
 | 0 => fun _ => none
 | n + 1 => vB (qZ n)
def qY (a0 : Formula) : Option Bool :=
 ((xd a0).bind fun b => ((if (decide (b.1 ≥ 1)) then some (decide (b.1 ≤ 64)) else some false).bind fun h => ((if h then some (decide (b.2 ≤ 6)) else some false).bind fun d => ((if d then ((qZ kd a0).bind fun a => some a) else some false).bind fun g => some g))))
def tH (a0 : Formula) (a : Int) : Option Bool :=
 ((if (a0.Op == a) then some ((a0.Kids.length : Int) == 0) else some false).bind fun x6 => some x6)
def yP  : Option Formula :=
 some (⟨2, 0, (⟨zS, zS⟩ : jr), []⟩ : Formula)
def zl  : Option Formula :=
 some (⟨3, 0, (⟨zS, zS⟩ : jr), []⟩ : Formula)
def qm (a0 : Int) : List Formula → (List Formula) → Option (List Formula)
 | [], a => some a
 | b :: d, a => (if (b.Op == a0) then ((mn 72 a b.Kids).bind fun g => (qm a0 d g)) else ((mn 72 a ([b])).bind fun h => (qm a0 d h)))
def Ah (a0 : Int) (a : List Formula) : Option (List Formula) :=
 qm a0 a ([])
def qD (a0 : Formula) (a : Int) : Option Bool :=
 ((tH a0 a).bind fun b => some b)
def sf (a0 : List Formula) : Option (List Formula) :=
 ((mn 72 ([]) a0).bind fun a => some a)
def lJ (p : Int) (f3 : (Formula × Formula) → Option Int) : Nat → (List Formula) → Int → Option (List Formula)
 | 0, _, _ => none
 | h + 1, b, a => ((if (decide (a > p)) then ((lE b a).bind fun k => ((lE b (wi0 .i64 (a - 1))).bind fun l => ((f3 (k, l)).bind fun i => some (decide (i < 0))))) else some false).bind fun j => (if j then ((lE b (wi0 .i64 (a - 1))).bind fun g => ((lE b a).bind fun d => ((lE b a).bind fun m => ((lE (b.set (Int.toNat a) g) (wi0 .i64 (a - 1))).bind fun n => (lJ p f3 h ((b.set (Int.toNat a) g).set (Int.toNat (wi0 .i64 (a - 1))) (⟨d.Op, d.K, d.jr, d.Kids⟩ : Formula)) (wi0 .i64 (a - 1))))))) else some b))
def lu (a2 h : Int) (f3 : (Formula × Formula) → Option Int) : Nat → (List Formula) → Int → Option (List Formula)
 | 0, _, _ => none
 | g + 1, b, a => (if (decide (a < a2)) then ((lJ h f3 kd b a).bind fun d => (lu a2 h f3 g d (wi0 .i64 (a + 1)))) else some b)
def mS (a0 : List Formula) (a a2 : Int) (f3 : (Formula × Formula) → Option Int) : Option (List Formula) :=
 lu a2 a f3 kd a0 (wi0 .i64 (a + 1))
def ma (a3 a2 h : Int) : Nat → (List Formula) → Int → Option (List Formula)
 | 0, _, _ => none
 | i + 1, b, a => (if (decide (a < a3)) then ((lE b (wi0 .i64 (a2 + a))).bind fun g => ((lE b (wi0 .i64 (h + a))).bind fun d => ((lE b (wi0 .i64 (h + a))).bind fun j => ((lE (b.set (Int.toNat (wi0 .i64 (h + a))) g) (wi0 .i64 (a2 + a))).bind fun k => (ma a3 a2 h i ((b.set (Int.toNat (wi0 .i64 (h + a))) g).set (Int.toNat (wi0 .i64 (a2 + a))) (⟨d.Op, d.K, d.jr, d.Kids⟩ : Formula)) (wi0 .i64 (a + 1))))))) else some b)
def mM (a0 : List Formula) (a a2 a3 : Int) (f4 : (Formula × Formula) → Option Int) : Option (List Formula) :=
 ma a3 a2 a kd a0 0
def ms (a2 : Int) (f4 : (Formula × Formula) → Option Int) : Nat → (List Formula) → Int → Int → Option (List Formula)
 | 0, _, _, _ => none
 | n185 + 1, d, a, b => (if (a != b) then (if (decide (a > b)) then ((mM d (wi0 .i64 (a2 - a)) a2 b f4).bind fun g => (ms a2 f4 n185 g (wi0 .i64 (a - b)) b)) else ((mM d (wi0 .i64 (a2 - a)) (wi0 .i64 ((wi0 .i64 (a2 + b)) - a)) a f4).bind fun h => (ms a2 f4 n185 h a (wi0 .i64 (b - a))))) else ((mM d (wi0 .i64 (a2 - a)) a2 a f4).bind fun i => some i))
def mG (a0 : List Formula) (a a2 a3 : Int) (f4 : (Formula × Formula) → Option Int) : Option (List Formula) :=
 ms a2 f4 kd a0 (wi0 .i64 (a2 - a)) (wi0 .i64 (a3 - a2))
def mi (h : Int) : Nat → (List Formula) → Int → Option (List Formula)
 | 0, _, _ => none
 | i + 1, b, a => (if (decide (a < (wi0 .i64 (h - 1)))) then ((lE b (wi0 .i64 (a + 1))).bind fun g => ((lE b a).bind fun d => ((lE b a).bind fun j => ((lE (b.set (Int.toNat a) g) (wi0 .i64 (a + 1))).bind fun k => (mi h i ((b.set (Int.toNat a) g).set (Int.toNat (wi0 .i64 (a + 1))) (⟨d.Op, d.K, d.jr, d.Kids⟩ : Formula)) (wi0 .i64 (a + 1))))))) else some b)
def kW (a0 : List Formula) (j : Int) (f4 : (Formula × Formula) → Option Int) : Nat → Int → Int → Option (List Formula)
 | 0, _, _ => none
 | n325 + 1, a, b => (if (decide (a < b)) then ((lE a0 (wi0 .i64 (Int.fdiv (IntKind.u64.wrap (wi0 .i64 (a + b))) (2 ^ min (Int.toNat 1) (IntKind.bits .u64))))).bind fun h => ((lE a0 j).bind fun i => ((f4 (h, i)).bind fun g => (if (decide (g < 0)) then (kW a0 j f4 n325 (wi0 .i64 ((wi0 .i64 (Int.fdiv (IntKind.u64.wrap (wi0 .i64 (a + b))) (2 ^ min (Int.toNat 1) (IntKind.bits .u64)))) + 1)) b) else (kW a0 j f4 n325 a (wi0 .i64 (Int.fdiv (IntKind.u64.wrap (wi0 .i64 (a + b))) (2 ^ min (Int.toNat 1) (IntKind.bits .u64))))))))) else ((mi a kd a0 j).bind fun d => some d))
def mh (g : Int) : Nat → (List Formula) → Int → Option (List Formula)
 | 0, _, _ => none
 | i + 1, b, a => (if (decide (a > g)) then ((lE b (wi0 .i64 (a - 1))).bind fun h => ((lE b a).bind fun d => ((lE b a).bind fun j => ((lE (b.set (Int.toNat a) h) (wi0 .i64 (a - 1))).bind fun k => (mh g i ((b.set (Int.toNat a) h).set (Int.toNat (wi0 .i64 (a - 1))) (⟨d.Op, d.K, d.jr, d.Kids⟩ : Formula)) (wi0 .i64 (a - 1))))))) else some b)
def kX (a0 : List Formula) (a2 : Int) (f4 : (Formula × Formula) → Option Int) : Nat → Int → Int → Option (List Formula)
 | 0, _, _ => none
 | d + 1, a, b => (if (decide (a < b)) then ((lE a0 a2).bind fun i => ((lE a0 (wi0 .i64 (Int.fdiv (IntKind.u64.wrap (wi0 .i64 (a + b))) (2 ^ min (Int.toNat 1) (IntKind.bits .u64))))).bind fun j => ((f4 (i, j)).bind fun h => (if (!(decide (h < 0))) then (kX a0 a2 f4 d (wi0 .i64 ((wi0 .i64 (Int.fdiv (IntKind.u64.wrap (wi0 .i64 (a + b))) (2 ^ min (Int.toNat 1) (IntKind.bits .u64)))) + 1)) b) else (kX a0 a2 f4 d a (wi0 .i64 (Int.fdiv (IntKind.u64.wrap (wi0 .i64 (a + b))) (2 ^ min (Int.toNat 1) (IntKind.bits .u64))))))))) else ((mh a kd a0 a2).bind fun g => some g))
def kJ (a0 : List Formula) (d a3 a2 : Int) (f4 : (Formula × Formula) → Option Int) (rec : (List Formula) → Int → Int → Int → ((Formula × Formula) → Option Int) → Option (List Formula)) : Nat → Int → Int → Option (List Formula)
 | 0, _, _ => none
 | i + 1, a, b => (if (decide (a < b)) then ((lE a0 (wi0 .i64 ((wi0 .i64 ((wi0 .i64 ((wi0 .i64 (Int.fdiv (IntKind.u64.wrap (wi0 .i64 (d + a3))) (2 ^ min (Int.toNat 1) (IntKind.bits .u64)))) + a2)) - 1)) - (wi0 .i64 (Int.fdiv (IntKind.u64.wrap (wi0 .i64 (a + b))) (2 ^ min (Int.toNat 1) (IntKind.bits .u64))))))).bind fun n => ((lE a0 (wi0 .i64 (Int.fdiv (IntKind.u64.wrap (wi0 .i64 (a + b))) (2 ^ min (Int.toNat 1) (IntKind.bits .u64))))).bind fun p => ((f4 (n, p)).bind fun j => (if (!(decide (j < 0))) then (kJ a0 d a3 a2 f4 rec i (wi0 .i64 ((wi0 .i64 (Int.fdiv (IntKind.u64.wrap (wi0 .i64 (a + b))) (2 ^ min (Int.toNat 1) (IntKind.bits .u64)))) + 1)) b) else (kJ a0 d a3 a2 f4 rec i a (wi0 .i64 (Int.fdiv (IntKind.u64.wrap (wi0 .i64 (a + b))) (2 ^ min (Int.toNat 1) (IntKind.bits .u64))))))))) else ((((if (decide (a < a2)) then some (decide (a2 < (wi0 .i64 ((wi0 .i64 ((wi0 .i64 (Int.fdiv (IntKind.u64.wrap (wi0 .i64 (d + a3))) (2 ^ min (Int.toNat 1) (IntKind.bits .u64)))) + a2)) - a)))) else some false).bind fun s => (if s then ((mG a0 a a2 (wi0 .i64 ((wi0 .i64 ((wi0 .i64 (Int.fdiv (IntKind.u64.wrap (wi0 .i64 (d + a3))) (2 ^ min (Int.toNat 1) (IntKind.bits .u64)))) + a2)) - a)) f4).bind fun m => some m) else some a0)) : Option (List Formula)).bind fun g => ((((if (decide (d < a)) then some (decide (a < (wi0 .i64 (Int.fdiv (IntKind.u64.wrap (wi0 .i64 (d + a3))) (2 ^ min (Int.toNat 1) (IntKind.bits .u64)))))) else some false).bind fun r => (if r then ((rec g d a (wi0 .i64 (Int.fdiv (IntKind.u64.wrap (wi0 .i64 (d + a3))) (2 ^ min (Int.toNat 1) (IntKind.bits .u64)))) f4).bind fun l => some l) else some g)) : Option (List Formula)).bind fun h => ((if (decide ((wi0 .i64 (Int.fdiv (IntKind.u64.wrap (wi0 .i64 (d + a3))) (2 ^ min (Int.toNat 1) (IntKind.bits .u64)))) < (wi0 .i64 ((wi0 .i64 ((wi0 .i64 (Int.fdiv (IntKind.u64.wrap (wi0 .i64 (d + a3))) (2 ^ min (Int.toNat 1) (IntKind.bits .u64)))) + a2)) - a)))) then some (decide ((wi0 .i64 ((wi0 .i64 ((wi0 .i64 (Int.fdiv (IntKind.u64.wrap (wi0 .i64 (d + a3))) (2 ^ min (Int.toNat 1) (IntKind.bits .u64)))) + a2)) - a)) < a3)) else some false).bind fun q => (if q then ((rec h (wi0 .i64 (Int.fdiv (IntKind.u64.wrap (wi0 .i64 (d + a3))) (2 ^ min (Int.toNat 1) (IntKind.bits .u64)))) (wi0 .i64 ((wi0 .i64 ((wi0 .i64 (Int.fdiv (IntKind.u64.wrap (wi0 .i64 (d + a3))) (2 ^ min (Int.toNat 1) (IntKind.bits .u64)))) + a2)) - a)) a3 f4).bind fun k => some k) else some h)))))
def oX (rec : (List Formula) → Int → Int → Int → ((Formula × Formula) → Option Int) → Option (List Formula)) (a0 : List Formula) (a a2 a3 : Int) (f4 : (Formula × Formula) → Option Int) : Option (List Formula) :=
 (if ((wi0 .i64 (a2 - a)) == 1) then kW a0 a f4 kd a2 a3 else (if ((wi0 .i64 (a3 - a2)) == 1) then kX a0 a2 f4 kd a a2 else (((if (decide (a2 > (wi0 .i64 (Int.fdiv (IntKind.u64.wrap (wi0 .i64 (a + a3))) (2 ^ min (Int.toNat 1) (IntKind.bits .u64)))))) then some ((wi0 .i64 ((wi0 .i64 ((wi0 .i64 (Int.fdiv (IntKind.u64.wrap (wi0 .i64 (a + a3))) (2 ^ min (Int.toNat 1) (IntKind.bits .u64)))) + a2)) - a3)), (wi0 .i64 (Int.fdiv (IntKind.u64.wrap (wi0 .i64 (a + a3))) (2 ^ min (Int.toNat 1) (IntKind.bits .u64))))) else some (a, a2)) : Option (Int × Int)).bind fun (b, d) => kJ a0 a a3 a2 f4 rec kd b d)))
def lA : Nat → (List Formula) → Int → Int → Int → ((Formula × Formula) → Option Int) → Option (List Formula)
 | 0 => fun _ _ _ _ _ => none
 | n + 1 => oX (lA n)
def mr (j b : Int) (f2 : (Formula × Formula) → Option Int) : Nat → (List Formula) → Int → Int → Option ((List Formula) × Int)
 | 0, _, _, _ => none
 | h + 1, g, d, a => (if (decide (a ≤ j)) then ((lA kd g d (wi0 .i64 (d + b)) a f2).bind fun i => (mr j b f2 h i a (wi0 .i64 (a + (wi0 .i64 (2 * b)))))) else some (g, d))
def lV (k : Int) (f2 : (Formula × Formula) → Option Int) : Nat → (List Formula) → Int → Option (List Formula)
 | 0, _, _ => none
 | i + 1, d, a => (if (decide (a < k)) then ((mr k a f2 kd d 0 (wi0 .i64 (2 * a))).bind fun (g, b) => (((if (decide ((wi0 .i64 (b + a)) < k)) then ((lA kd g b (wi0 .i64 (b + a)) k f2).bind fun j => some j) else some g) : Option (List Formula)).bind fun h => (lV k f2 i h (wi0 .i64 (a * 2))))) else some d)
def lW (j : Int) (f2 : (Formula × Formula) → Option Int) : Nat → (List Formula) → Int → Int → Option (List Formula)
 | 0, _, _, _ => none
 | n123 + 1, d, i, a => (if (decide (a ≤ j)) then ((mS d i a f2).bind fun g => (lW j f2 n123 g a (wi0 .i64 (a + 20)))) else ((mS d i j f2).bind fun h => ((lV j f2 kd h 20).bind fun b => some b)))
def qU (a0 : List Formula) (a : Int) (f2 : (Formula × Formula) → Option Int) : Option (List Formula) :=
 lW a f2 kd a0 0 20
def oO (a0 : List Formula) (f1 : (Formula × Formula) → Option Int) : Option (List Formula) :=
 ((qU a0 (a0.length : Int) f1).bind fun a => some a)
def qn (rec : (List Int) → Formula → Option (List Int)) : List Formula → (List Int) → Option (List Int)
 | [], a => some a
 | g :: b, a => ((rec a g).bind fun d => (qn rec b d))
def vG (rec : (List Int) → Formula → Option (List Int)) (b : List Int) (a : Formula) : Option (List Int) :=
 ((nV b a.Op).bind fun i => (if (a.Op == 1) then ((pY i.2 a.jr).bind fun h => some h.2) else (((if (a.Op == 4) then ((nV i.2 a.K).bind fun d => some d.2) else some i.2) : Option (List Int)).bind fun g => ((nV g (a.Kids.length : Int)).bind fun j => qn rec a.Kids j.2))))
def pN : Nat → (List Int) → Formula → Option (List Int)
 | 0 => fun _ _ => none
 | n + 1 => vG (pN n)
def wq (a : List Int) (b : Formula) : Option (Bool × (List Int)) :=
 ((qY b).bind fun d => (if (!d) then some (false, a) else ((pN kd a b).bind fun g => some (true, g))))
def te (a0 : Formula) : Option (List Int) :=
 ((wq ([]) a0).bind fun b => ((tU b.2).bind fun a => some a))
def ta (a0 g : Formula) : Option Int :=
 ((te a0).bind fun a => ((te g).bind fun b => ((wy a b).bind fun d => some d)))
def vo (a0 : List Formula) : Option (List Formula) :=
 ((sf a0).bind fun b => ((oO b (fun (x : (Formula × Formula)) => ta x.1 x.2)).bind fun a => some a))
def mE (b : Int) (f1 : (Formula × Formula) → Option Bool) : Nat → (List Formula) → Int → Int → Option ((List Formula) × Int)
 | 0, _, _, _ => none
 | i + 1, a, d, g => (if (decide (g < ((a.length - (Int.toNat b) : Nat) : Int))) then ((((lE (a.drop (Int.toNat b)) g).bind fun l => ((lE (a.drop (Int.toNat b)) (wi0 .i64 (g - 1))).bind fun m => ((f1 (l, m)).bind fun j => (if (!j) then ((lE (a.drop (Int.toNat b)) g).bind fun n => ((lE a d).bind fun p => some ((a.set (Int.toNat d) n), (wi0 .i64 (d + 1))))) else some (a, d))))) : Option ((List Formula) × Int)).bind fun (h, k) => (mE b f1 i h k (wi0 .i64 (g + 1)))) else some (a, d))
def mC (a0 : List Formula) (f1 : (Formula × Formula) → Option Bool) : Nat → Int → Option (List Formula)
 | 0, _ => none
 | g + 1, a => (if (decide (a < (a0.length : Int))) then ((lE a0 a).bind fun i => ((lE a0 (wi0 .i64 (a - 1))).bind fun j => ((f1 (i, j)).bind fun h => (if h then ((rF (decide (0 ≤ a) && decide (a ≤ (a0.length : Int)))).bind fun _ => ((mE a f1 kd a0 a 1).bind fun (d, b) => ((rF (decide (0 ≤ b) && decide (b ≤ (d.length : Int)))).bind fun _ => ((rF (decide (0 ≤ b) && decide (b ≤ ((oI d (Int.toNat b) (⟨0, 0, (⟨zS, zS⟩ : jr), []⟩ : Formula)).length : Int)))).bind fun _ => some ((oI d (Int.toNat b) (⟨0, 0, (⟨zS, zS⟩ : jr), []⟩ : Formula)).take (Int.toNat b)))))) else (mC a0 f1 g (wi0 .i64 (a + 1))))))) else some a0)
def pz (a0 : List Formula) (f1 : (Formula × Formula) → Option Bool) : Option (List Formula) :=
 (if (decide ((a0.length : Int) < 2)) then some a0 else mC a0 f1 kd 1)
def kV (h : List Formula) (f2 : (Formula × Formula) → Option Bool) : List Formula → Nat → Option Bool
 | [], _ => some true
 | g :: d, i95 => ((lE h (i95 : Int)).bind fun b => ((f2 (g, b)).bind fun a => (if (!a) then some false else (kV h f2 d (i95 + 1)))))
def mD (a0 a : List Formula) (f2 : (Formula × Formula) → Option Bool) : Option Bool :=
 (if ((a0.length : Int) != (a.length : Int)) then some false else kV a f2 a0 0)
def wc (rec : Formula → Formula → Option Bool) (a0 a : Formula) : Option Bool :=
 ((if (a0.Op == a.Op) then some (a0.K == a.K) else some false).bind fun d => ((if d then some (jQ a0.jr a.jr) else some false).bind fun g => ((if g then ((mD a0.Kids a.Kids (fun (x : (Formula × Formula)) => rec x.1 x.2)).bind fun b => some b) else some false).bind fun h => some h)))
def nX : Nat → Formula → Formula → Option Bool
 | 0 => fun _ _ => none
 | n + 1 => wc (nX n)
def ob (a0 : kG) (d : Int) (a2 : List Formula) : Option (Formula × kG) :=
 ((Ah d a2).bind fun j => ((nS j (fun (x : Formula) => qD x (wi0 .i64 (5 - d)))).bind fun g => (if g then some ((⟨(wi0 .i64 (5 - d)), 0, (⟨zS, zS⟩ : jr), []⟩ : Formula), a0) else ((vo j).bind fun h => ((pz h (fun (x : (Formula × Formula)) => nX kd x.1 x.2)).bind fun a => (((if (decide ((a.length : Int) > 64)) then some (⟨12⟩ : kG) else some a0) : Option kG).bind fun b => (if ((a.length : Int) == 1) then ((lE a 0).bind fun i => some (i, b)) else some ((⟨d, 0, (⟨zS, zS⟩ : jr), a⟩ : Formula), b))))))))
def mB (a0 : kG) : List Formula → Int → (List Formula) → Option (Formula × kG)
 | [], b, a => (if (decide (b ≤ 0)) then (yP.bind fun m => some (m, a0)) else (if (decide (b > (a.length : Int))) then (zl.bind fun n => some (n, a0)) else (if (b == (a.length : Int)) then ((ob a0 2 a).bind fun h => some (h.1, h.2)) else (if (b == 1) then ((ob a0 3 a).bind fun i => some (i.1, i.2)) else ((vo a).bind fun p => some ((⟨4, b, (⟨zS, zS⟩ : jr), p⟩ : Formula), a0))))))
 | g :: d, b, a => ((tH g 2).bind fun k => (if k then (mB a0 d (wi0 .i64 (b - 1)) a) else ((tH g 3).bind fun l => (if (!l) then ((mn 72 a ([g])).bind fun j => (mB a0 d b j)) else (mB a0 d b a)))))
def qE (a0 : kG) (a : Int) (a2 : List Formula) : Option (Formula × kG) :=
 mB a0 a2 a ([])
def nH (rec : kG → Formula → Option (Formula × kG)) (l : Formula) : List Formula → (List Formula) → kG → Option (Formula × kG)
 | [], a, b => (if (l.Op == 4) then ((qE b l.K a).bind fun g => some (g.1, g.2)) else ((ob b l.Op a).bind fun h => some (h.1, h.2)))
 | k :: i, a, b => ((rec b k).bind fun d => ((mn 72 a ([d.1])).bind fun j => (nH rec l i j d.2)))
def rY (rec : kG → Formula → Option (Formula × kG)) (a0 : kG) (a : Formula) : Option (Formula × kG) :=
 (if (a.Op == 1) then some (a, a0) else nH rec a a.Kids ([]) a0)
def nc : Nat → kG → Formula → Option (Formula × kG)
 | 0 => fun _ _ => none
 | n + 1 => rY (nc n)
def xJ (a0 : Formula) : Option (Formula × Int) :=
 ((qY a0).bind fun g => (if (!g) then some ((⟨0, 0, (⟨zS, zS⟩ : jr), []⟩ : Formula), 11) else ((nc kd (⟨0⟩ : kG) a0).bind fun a => ((if (a.2.e != 0) then some true else ((qY a.1).bind fun b => some (!b))).bind fun d => (if d then some ((⟨0, 0, (⟨zS, zS⟩ : jr), []⟩ : Formula), 12) else some (a.1, 0))))))
def xS (a0 b : Formula) : Option (Formula × Int) :=
 ((xJ (⟨2, 0, (⟨zS, zS⟩ : jr), [a0, b]⟩ : Formula)).bind fun a => some (a.1, a.2))
def tF  : List Formula → Int → Int → Int → jr → (List Formula) → Option (Int × Int × Int × jr × (List Formula))
 | [], d, g, h, i, b => some (d, g, h, i, b)
 | k :: j, d, g, h, i, b => (if (d != 0) then some (d, g, h, i, b) else ((xS (⟨g, h, i, b⟩ : Formula) k).bind fun a => (tF j a.2 ((a.1).Op) ((a.1).K) ((a.1).jr) ((a.1).Kids))))
def vW (a0 : List Formula) : Option (Formula × Int) :=
 ((lE a0 0).bind fun x6 => ((xJ x6).bind fun a => ((rF (decide (0 ≤ 1) && decide (1 ≤ (a0.length : Int)))).bind fun _ => ((tF (a0.drop (Int.toNat 1)) a.2 ((a.1).Op) ((a.1).K) ((a.1).jr) ((a.1).Kids)).bind fun (b, g, h, i, d) => (if (b != 0) then some ((⟨0, 0, (⟨zS, zS⟩ : jr), []⟩ : Formula), b) else some ((⟨g, h, i, d⟩ : Formula), 0))))))
def uk  : List nF → (List Formula) → Option (Formula × Int)
 | [], a => ((vW a).bind fun b => some (b.1, b.2))
 | h :: d, a => ((mn 72 a ([h.jB])).bind fun g => (uk d g))
def Au (a0 : kL) (d : js) : Option (Formula × Int) :=
 ((yH a0 d).bind fun a => (if (!a.2) then some ((⟨0, 0, (⟨zS, zS⟩ : jr), []⟩ : Formula), 42) else ((xU a0 d).bind fun b => uk b ([(a.1).jB]))))
def pq (rec : Formula → (jr → Option Bool) → Option Bool) (f1 : jr → Option Bool) (a0 : Formula) : List Formula → Int → Option Bool
 | [], a => (if (a0.Op == 2) then some (a == (a0.Kids.length : Int)) else (if (a0.Op == 3) then some (decide (a > 0)) else some (decide (a ≥ a0.K))))
 | g :: b, a => ((rec g f1).bind fun d => (if d then (pq rec f1 a0 b (wi0 .i64 (a + 1))) else (pq rec f1 a0 b a)))
def vA (rec : Formula → (jr → Option Bool) → Option Bool) (a0 : Formula) (f1 : jr → Option Bool) : Option Bool :=
 (if (a0.Op == 1) then ((f1 a0.jr).bind fun a => some a) else pq rec f1 a0 a0.Kids 0)
def pP : Nat → Formula → (jr → Option Bool) → Option Bool
 | 0 => fun _ _ => none
 | n + 1 => vA (pP n)
def vn (a0 : Formula) (f1 : jr → Option Bool) : Option Bool :=
 ((qY a0).bind fun d => ((if d then ((pP kd a0 f1).bind fun a => some a) else some false).bind fun b => some b))
def pQ (a0 : jr) (h : List (jr × (List (ByteArray × Bool)))) (a : List js) (g : List (jr × (List js))) (b : List (ByteArray × (List js))) (d : List jM) (i : Int) (c1 : ByteArray) : Option Bool :=
 ((tT h a g b d i a0 c1).bind fun j => some j)
def qT (a0 : kL) (d : ((List (jr × (List (ByteArray × Bool)))) × (List js) × (List (jr × (List js))) × (List (ByteArray × (List js))) × (List jM) × Int × ByteArray)) : List kD → (List js) → Option (List js)
 | [], a => ((uD a).bind fun j => some j)
 | g :: b, a => ((Au a0 g.Signed.js).bind fun r417 => ((if (r417.2 == 0) then ((vn r417.1 (fun (x : jr) => pQ x d.1 d.2.1 d.2.2.1 d.2.2.2.1 d.2.2.2.2.1 d.2.2.2.2.2.1 d.2.2.2.2.2.2)).bind fun i => some i) else some false).bind fun k => (if k then ((mn 136 a ([g.Signed.js])).bind fun h => (qT a0 d b h)) else (qT a0 d b a))))
def pj (a0 : kL) (a : List js) (a2 : ByteArray) : Option (List js) :=
 ((vj a a2).bind fun b => qT a0 b a0.jN ([]))
def wU (a0 k : kL) : Nat → (List js) → (List js) → Int → Option ((List js) × (List js) × Int)
 | 0, _, _, _ => none
 | i + 1, a, b, h => ((pj a0 b k.Name).bind fun d => ((pj k a a0.Name).bind fun g => ((if ((d.length : Int) == (a.length : Int)) then some ((g.length : Int) == (b.length : Int)) else some false).bind fun j => (if j then some (a, b, h) else (wU a0 k i d g (wi0 .i64 (h + 1)))))))
def Fv (a0 a : kL) : Option ((List js) × (List js) × Int) :=
 wU a0 a kd ([]) ([]) 0
def rR (rec : (List Formula) → Option Int) : List Formula → Int → Option Int
 | [], b => some b
 | a :: g, b => ((rec a.Kids).bind fun d => (rR rec g (wi0 .i64 (b + (wi0 .i64 ((wi0 .i64 (1 + (wi0 .i64 (Int.tdiv (wi0 .i64 ((a.jr.ju.size : Int) + (a.jr.jy.size : Int))) 16)))) + d))))))
def wC (rec : (List Formula) → Option Int) (a0 : List Formula) : Option Int :=
 rR rec a0 0
def oM : Nat → (List Formula) → Option Int
 | 0 => fun _ => none
 | n + 1 => wC (oM n)
def rU  : List nF → Int → Option Int
 | [], b => some b
 | a :: d, b => ((oM kd ([a.jB])).bind fun g => ((vL a.mu).bind fun h => (rU d (wi0 .i64 (b + (wi0 .i64 ((wi0 .i64 ((wi0 .i64 ((a.jr.ju.size : Int) + (a.jr.jy.size : Int))) + (wi0 .i64 (20 * g)))) + h)))))))
def rL (a0 : kL) : List kD → Int → Option Int
 | [], a => ((rU a0.ky a).bind fun d => some d)
 | b :: g, a => ((((uq ([]) ([b.Signed])).bind fun j => some (j, ([b.jB]))) : Option (Int × (List Formula))).bind fun (k, h) => ((oM kd h).bind fun i => (rL a0 g (wi0 .i64 (a + (wi0 .i64 (k + (wi0 .i64 (20 * i)))))))))
def vV (a0 : kL) : Option Int :=
 rL a0 a0.jN (a0.Name.size : Int)
def xY (a0 : na) : Option Int :=
 ((((vV a0.ju).bind fun g => ((vV a0.Client).bind fun h => some ((wi0 .i64 (g + h)), ([a0.Formula])))) : Option (Int × (List Formula))).bind fun (i, a) => ((oM kd a).bind fun b => ((uq a0.Keys ([])).bind fun d => some (wi0 .i64 ((wi0 .i64 (i + (wi0 .i64 (20 * b)))) + d)))))
def qj (h : ByteArray) : List jM → (List jr) → Option (List jr)
 | [], a => some a
 | g :: b, a => (if (kU g.kE h) then ((mn 32 a ([g.jr])).bind fun d => (qj h b d)) else (qj h b a))
def vH (a0 : List jM) (a : ByteArray) : Option (List jr) :=
 qj a a0 ([])
def rT (rec : Formula → Option Int) : List Formula → Int → Option Int
 | [], a => some a
 | g :: d, a => ((rec g).bind fun b => (rT rec d (wi0 .i64 (a + b))))
def wI (rec : Formula → Option Int) (a0 : Formula) : Option Int :=
 rT rec a0.Kids 1
def ri : Nat → Formula → Option Int
 | 0 => fun _ => none
 | n + 1 => wI (ri n)
def sI (rec : Formula → Option Int) : List Formula → Int → Option Int
 | [], a => some (wi0 .i64 (a + 1))
 | g :: d, a => ((rec g).bind fun b => (sI rec d (if b > a then b else a)))
def xy (rec : Formula → Option Int) (a0 : Formula) : Option Int :=
 sI rec a0.Kids 0
def sn : Nat → Formula → Option Int
 | 0 => fun _ => none
 | n + 1 => xy (sn n)
def sP (rec : Formula → Option Bool) : List Formula → Option Bool
 | [] => some true
 | d :: a => ((rec d).bind fun b => (if (!b) then some false else (sP rec a)))
def xv (rec : Formula → Option Bool) (a0 : Formula) : Option Bool :=
 (if (a0.Op == 1) then ((sT a0.jr).bind fun n => ((if n then some ((a0.Kids.length : Int) == 0) else some false).bind fun h => ((if h then some (a0.K == 0) else some false).bind fun i => some i))) else ((if (decide (a0.Op < 1)) then some true else some (decide (a0.Op > 4))).bind fun j => ((if j then some true else some (!(jQ a0.jr (⟨zS, zS⟩ : jr)))).bind fun k => ((if k then some true else some (decide ((a0.Kids.length : Int) > 8))).bind fun l => (if l then some false else ((if (decide (a0.Op < 4)) then some (a0.K != 0) else some false).bind fun m => ((if m then some true else ((if (a0.Op == 4) then ((if (decide ((a0.Kids.length : Int) < 1)) then some true else some (decide (a0.K < 0))).bind fun d => ((if d then some true else some (decide (a0.K > (a0.Kids.length : Int)))).bind fun g => some g)) else some false).bind fun b => some b)).bind fun a => (if a then some false else sP rec a0.Kids))))))))
def sF : Nat → Formula → Option Bool
 | 0 => fun _ => none
 | n + 1 => xv (sF n)
def rk (a0 : Formula) : Option Bool :=
 ((ri kd a0).bind fun h => ((if (decide (h ≤ 64)) then ((sn kd a0).bind fun b => some (decide (b ≤ 6))) else some false).bind fun d => ((if d then ((sF kd a0).bind fun a => some a) else some false).bind fun g => some g)))
def vt (a0 : Formula) (a : Int) : Option Bool :=
 ((if (a0.Op == a) then some ((a0.Kids.length : Int) == 0) else some false).bind fun x6 => some x6)
def rX (rec : Formula → Option ByteArray) : List Formula → ByteArray → Option ByteArray
 | [], a => some a
 | h :: g, a => ((rec h).bind fun b => ((wD a b).bind fun d => (rX rec g d)))
def wF (rec : Formula → Option ByteArray) (a0 : Formula) : Option ByteArray :=
 ((qx a0.Op).bind fun g => (if (a0.Op == 1) then ((sU a0.jr).bind fun k => ((wD g k).bind fun h => some h)) else (((if (a0.Op == 4) then ((qx a0.K).bind fun a => ((wD g a).bind fun b => some b)) else some g) : Option ByteArray).bind fun j => ((qx (a0.Kids.length : Int)).bind fun d => ((wD j d).bind fun i => rX rec a0.Kids i)))))
def px : Nat → Formula → Option ByteArray
 | 0 => fun _ => none
 | n + 1 => wF (px n)
def wj (a0 j : Formula) : Option Int :=
 ((((rk a0).bind fun h => (if h then ((px kd a0).bind fun i => some i) else some zS)) : Option ByteArray).bind fun a => ((((rk j).bind fun d => (if d then ((px kd j).bind fun g => some g) else some zS)) : Option ByteArray).bind fun b => (if (qe a b) then some (-1) else (if (!(qe a b || kU a b)) then some 1 else some 0))))
def sN (h : Formula) (rec : Formula → Formula → Option Bool) : List Formula → Nat → Option Bool
 | [], _ => some true
 | d :: a, i182 => ((lE h.Kids (i182 : Int)).bind fun g => ((rec d g).bind fun b => (if (!b) then some false else (sN h rec a (i182 + 1)))))
def xw (rec : Formula → Formula → Option Bool) (a0 a : Formula) : Option Bool :=
 ((if (a0.Op != a.Op) then some true else some (a0.K != a.K)).bind fun b => ((if b then some true else some (!(jQ a0.jr a.jr))).bind fun d => ((if d then some true else some ((a0.Kids.length : Int) != (a.Kids.length : Int))).bind fun g => (if g then some false else sN a rec a0.Kids 0))))
def qP : Nat → Formula → Formula → Option Bool
 | 0 => fun _ _ => none
 | n + 1 => xw (qP n)
def pI (b : List Formula) (d : Formula) : Nat → Int → Option Int
 | 0, _ => none
 | g + 1, a => ((if (decide (a > 0)) then ((lE b (wi0 .i64 (a - 1))).bind fun j => ((wj j d).bind fun h => some (decide (h > 0)))) else some false).bind fun i => (if i then (pI b d g (wi0 .i64 (a - 1))) else some a))
def mA (p : Bool) : List Formula → (List Formula) → Option (List Formula)
 | [], a => some a
 | d :: g, a => ((pI a d kd (a.length : Int)).bind fun b => ((if p then some (decide (b > 0)) else some false).bind fun l => ((if l then ((lE a (wi0 .i64 (b - 1))).bind fun n => ((qP kd n d).bind fun k => some k)) else some false).bind fun m => (if m then (mA p g a) else ((rF (decide (0 ≤ b) && decide (b ≤ (a.length : Int)))).bind fun _ => ((mn 72 ([]) (a.take (Int.toNat b))).bind fun h => ((mn 72 h ([d])).bind fun i => ((rF (decide (0 ≤ b) && decide (b ≤ (a.length : Int)))).bind fun _ => ((mn 72 i (a.drop (Int.toNat b))).bind fun j => (mA p g j))))))))))
def vd (a0 : List Formula) (a : Bool) : Option (List Formula) :=
 mA a a0 ([])
def pg (g : Int) (a0 : kY) : List Formula → Option ((Formula × kY) ⊕ Unit)
 | [] => some (Sum.inr ())
 | d :: a => ((vt d (wi0 .i64 (5 - g))).bind fun b => (if b then some (Sum.inl ((⟨(wi0 .i64 (5 - g)), 0, (⟨zS, zS⟩ : jr), []⟩ : Formula), a0)) else (pg g a0 a)))
def mY (i : Int) (a0 : kY) : List Formula → (List Formula) → Option (Formula × kY)
 | [], a => ((pg i a0 a).bind fun s => match s with | .inl l => some l | .inr _ => ((vd a true).bind fun b => ((if a0.O0 then some true else some (decide ((b.length : Int) > 64))).bind fun h => (if ((b.length : Int) == 1) then ((lE b 0).bind fun n => some (n, (⟨h⟩ : kY))) else some ((⟨i, 0, (⟨zS, zS⟩ : jr), b⟩ : Formula), (⟨h⟩ : kY))))))
 | d :: g, a => (if (d.Op == i) then ((mn 72 a d.Kids).bind fun j => (mY i a0 g j)) else ((vt d (wi0 .i64 (5 - i))).bind fun m => (if m then some ((⟨(wi0 .i64 (5 - i)), 0, (⟨zS, zS⟩ : jr), []⟩ : Formula), a0) else ((mn 72 a ([d])).bind fun k => (mY i a0 g k)))))
def pb (a0 : kY) (a : Int) (a2 : List Formula) : Option (Formula × kY) :=
 mY a a0 a2 ([])
def mQ  : List Formula → Int → (List Formula) → Option (Int × (List Formula))
 | [], b, a => some (b, a)
 | g :: d, b, a => ((vt g 2).bind fun i => (if i then (mQ d (wi0 .i64 (b - 1)) a) else ((vt g 3).bind fun j => (if (!j) then ((mn 72 a ([g])).bind fun h => (mQ d b h)) else (mQ d b a)))))
def nk (rec : kY → Formula → Option (Formula × kY)) (q : Formula) : List Formula → (List Formula) → kY → Option (Formula × kY)
 | [], g, a => (if (decide (q.Op < 4)) then ((pb a q.Op g).bind fun i => some (i.1, i.2)) else ((mQ g q.K ([])).bind fun (d, b) => (if (decide (d ≤ 0)) then some ((⟨2, 0, (⟨zS, zS⟩ : jr), []⟩ : Formula), a) else (if (decide (d > (b.length : Int))) then some ((⟨3, 0, (⟨zS, zS⟩ : jr), []⟩ : Formula), a) else (if (d == (b.length : Int)) then ((pb a 2 b).bind fun j => some (j.1, j.2)) else (if (d == 1) then ((pb a 3 b).bind fun k => some (k.1, k.2)) else ((vd b false).bind fun n => some ((⟨4, d, (⟨zS, zS⟩ : jr), n⟩ : Formula), a))))))))
 | p :: l, g, a => ((rec a p).bind fun h => ((mn 72 g ([h.1])).bind fun m => (nk rec q l m h.2)))
def so (rec : kY → Formula → Option (Formula × kY)) (a0 : kY) (a : Formula) : Option (Formula × kY) :=
 (if (a.Op == 1) then some (a, a0) else nk rec a a.Kids ([]) a0)
def mV : Nat → kY → Formula → Option (Formula × kY)
 | 0 => fun _ _ => none
 | n + 1 => so (mV n)
def yD (a0 : Formula) : Option (Formula × Int) :=
 ((rk a0).bind fun g => (if (!g) then some ((⟨0, 0, (⟨zS, zS⟩ : jr), []⟩ : Formula), 11) else ((mV kd (⟨false⟩ : kY) a0).bind fun a => ((if a.2.O0 then some true else ((rk a.1).bind fun b => some (!b))).bind fun d => (if d then some ((⟨0, 0, (⟨zS, zS⟩ : jr), []⟩ : Formula), 12) else some (a.1, 0))))))
def sQ (n : js) : List nF → Int → Int → Int → jr → (List Formula) → Option (Int × Int × Int × jr × (List Formula))
 | [], d, g, h, i, b => some (d, g, h, i, b)
 | k :: j, d, g, h, i, b => ((if (d == 0) then ((xH k.mu n).bind fun l => some l) else some false).bind fun m => (if m then ((yD (⟨2, 0, (⟨zS, zS⟩ : jr), [(⟨g, h, i, b⟩ : Formula), k.jB]⟩ : Formula)).bind fun a => (sQ n j a.2 ((a.1).Op) ((a.1).K) ((a.1).jr) ((a.1).Kids))) else (sQ n j d g h i b)))
def vT (l : js) (a0 : kL) : List kD → Option (Formula × Int)
 | [] => some ((⟨0, 0, (⟨zS, zS⟩ : jr), []⟩ : Formula), 42)
 | b :: g => (if (!(lD b.Signed.js l)) then (vT l a0 g) else ((yD b.jB).bind fun a => ((sQ l a0.ky a.2 ((a.1).Op) ((a.1).K) ((a.1).jr) ((a.1).Kids)).bind fun (d, i, j, k, h) => (if (d != 0) then some ((⟨0, 0, (⟨zS, zS⟩ : jr), []⟩ : Formula), d) else some ((⟨i, j, k, h⟩ : Formula), 0)))))
def Aw (a0 : kL) (a : js) : Option (Formula × Int) :=
 vT a a0 a0.jN
def wY (d : jr) : List jr → Option Bool
 | [] => some false
 | b :: a => (if (jQ b d) then some true else (wY d a))
def zy (a0 : List jr) (a : jr) : Option Bool :=
 wY a a0
def rc (rec : Formula → (List jr) → Option Bool) (g : List jr) (a0 : Formula) : List Formula → Int → Option Bool
 | [], a => (if (a0.Op == 2) then some (a == (a0.Kids.length : Int)) else (if (a0.Op == 3) then some (decide (a > 0)) else some (decide (a ≥ a0.K))))
 | h :: b, a => ((rec h g).bind fun d => (if d then (rc rec g a0 b (wi0 .i64 (a + 1))) else (rc rec g a0 b a)))
def xx (rec : Formula → (List jr) → Option Bool) (a0 : Formula) (a : List jr) : Option Bool :=
 (if (a0.Op == 1) then ((zy a a0.jr).bind fun b => some b) else rc rec a a0 a0.Kids 0)
def su : Nat → Formula → (List jr) → Option Bool
 | 0 => fun _ _ => none
 | n + 1 => xx (su n)
def qW (a0 : kL) (h : List jr) : List kD → (List js) → Option (List js)
 | [], a => ((xK a).bind fun k => some k)
 | g :: b, a => ((Aw a0 g.Signed.js).bind fun d => ((if (d.2 == 0) then ((su kd d.1 h).bind fun j => some j) else some false).bind fun l => (if l then ((mn 136 a ([g.Signed.js])).bind fun i => (qW a0 h b i)) else (qW a0 h b a))))
def wM (a0 : kL) (b : List js) (a2 : ByteArray) : Option (List js) :=
 ((wV b).bind fun d => ((vH d a2).bind fun a => qW a0 a a0.jN ([])))
def se (b : Int) : Option (List js) :=
 (if (decide (b < 0)) then none else (((if (decide ((wi0 .i64 (b - (wi0 .i64 (0 - 0)))) > 0)) then ((He 136 (⟨0, (⟨zS, zS⟩ : jr), zS, (⟨zS, zS⟩ : jr), (⟨zS, zS⟩ : jr), zS⟩ : js) (wi0 .i64 (b - (wi0 .i64 (0 - 0))))).bind fun a => ((rF (decide (0 ≤ 0) && decide (0 ≤ (a.length : Int)))).bind fun _ => some (a.take (Int.toNat 0)))) else some ([])) : Option (List js)).bind fun d => some d))
def ow  : List (List js) → (List js) → Option (List js)
 | [], a => some a
 | g :: b, a => ((mn 136 a g).bind fun d => (ow b d))
def oz (a0 : List (List js)) : List (List js) → Int → Option (List js)
 | [], a => ((se a).bind fun h => ((ow a0 h).bind fun b => some b))
 | d :: g, a => (if (decide ((wi0 .i64 (a + (d.length : Int))) < 0)) then none else (oz a0 g (wi0 .i64 (a + (d.length : Int)))))
def qR (a0 : List (List js)) : Option (List js) :=
 oz a0 a0 0
structure Jg where
 Name : ByteArray
 Nq : Int
 TV : Int
 T9 : Int
 TI : Int
structure nw where
 A : List js
 B : List js
structure kF where
 nT : List js
 nD : List js
def ub (a0 : jr) (n : List (jr × (List (ByteArray × Bool)))) (b : List js) (h : List (jr × (List js))) (d : List (ByteArray × (List js))) (g : List jM) (u : Int) (r : ByteArray) (m : List kD) (q : List nF) (a : ByteArray) (i : List kD) (l : List nF) (p s : Int) (k : jr) (j : List Formula) (z : Int) (w : kT) (t x v : Int) (y : List Key) : Option Bool :=
 ((tT n b h d g u a0 a).bind fun E => some E)
def tZ (a0 : na) (d : List js) : Option Bool :=
 ((wW d).bind fun a => ((vn a0.Formula (fun (x : jr) => ub x a.1 a.2.1 a.2.2.1 a.2.2.2.1 a.2.2.2.2.1 a.2.2.2.2.2 a0.ju.Name a0.ju.jN a0.ju.ky a0.Client.Name a0.Client.jN a0.Client.ky a0.Formula.Op a0.Formula.K a0.Formula.jr a0.Formula.Kids a0.uY a0.nu a0.pa a0.sH a0.qp a0.Keys)).bind fun b => some b))
def ol (a0 : na) : Option (ByteArray × ByteArray × Int × Int × jr × Int × kT × Int × Int × Int) :=
 some (a0.ju.Name, a0.Client.Name, a0.Formula.Op, a0.Formula.K, a0.Formula.jr, a0.uY, a0.nu, a0.pa, a0.sH, a0.qp)
def uU (a0 : js) (a : List js) : Option Bool :=
 ((pB a a0).bind fun b => some b)
def vk (a0 a : List js) : Option (List js) :=
 ((pk a0 (fun (x : js) => uU x a)).bind fun b => some b)
def mN {q : Type} (b : ByteArray) (h : List kD) (i : List nF) (a : ByteArray) (d : List kD) (g : List nF) (f0 : q → (Int × kF) → Option (Bool × q)) : Nat → (List js) → (List js) → Int → q → Option q
 | 0, _, _, _, _ => none
 | I + 1, l, m, s, r => ((pj (⟨b, h, i⟩ : kL) m a).bind fun v => ((vk v l).bind fun j => ((pj (⟨a, d, g⟩ : kL) l b).bind fun w => ((vk w m).bind fun k => (((if ((wi0 .i64 ((j.length : Int) + (k.length : Int))) == 0) then some (j, k, true, r) else ((f0 r (s, (⟨j, k⟩ : kF))).bind fun n => some (j, k, (!n.1), n.2))) : Option ((List js) × (List js) × Bool × q)).bind fun (t, u, G, p) => (if G then some p else ((qR ([l, t])).bind fun x => ((uD x).bind fun y => ((qR ([m, u])).bind fun z => ((uD z).bind fun E => (mN b h i a d g f0 I y E (wi0 .i64 (s + 1)) p)))))))))))
def mU {n : Type} (f0 : n → (Int × kF) → Option (Bool × n)) (v : n) (i : ByteArray) (g : List kD) (h : List nF) (d : ByteArray) (a : List kD) (b : List nF) (l m : Int) (k : jr) (j : List Formula) (u : Int) (r : kT) (p s q : Int) (t : List Key) : Option n :=
 mN i g h d a b f0 kd ([]) ([]) 0 v
def nL (d : kF) (h : List kT) (a0 : na) (g : List js) : Nat → Int → kT → Option (((List kT) × kT × (List js)) ⊕ (Bool × (List kT)))
 | 0, _, _ => none
 | i + 1, a, b => (if (decide (a < 2)) then (if (a == 0) then (if (a == 0) then (nL d h a0 g i (wi0 .i64 (a + 1)) (⟨(wi0 .i64 (b.nT + (d.nT.length : Int))), b.nD⟩ : kT)) else (if (a == 1) then (nL d h a0 g i (wi0 .i64 (a + 1)) (⟨(wi0 .i64 (b.nT + (d.nD.length : Int))), b.nD⟩ : kT)) else none)) else (if (a == 1) then (if (a == 0) then (nL d h a0 g i (wi0 .i64 (a + 1)) (⟨b.nT, (wi0 .i64 (b.nD + (d.nT.length : Int)))⟩ : kT)) else (if (a == 1) then (nL d h a0 g i (wi0 .i64 (a + 1)) (⟨b.nT, (wi0 .i64 (b.nD + (d.nD.length : Int)))⟩ : kT)) else none)) else none)) else ((mn 16 h ([b])).bind fun j => ((tZ a0 g).bind fun k => (if k then some (Sum.inr (true, j)) else some (Sum.inl (j, b, g))))))
def rN (a0 : na) (i : Int) (a : kF) (b : List kT) (h : kT) (d : List js) : Option (((List kT) × kT × (List js)) ⊕ (Bool × (List kT))) :=
 ((mn 136 d a.nD).bind fun g => nL a b a0 g kd 0 h)
def sR (a0 : na) : Option ((List kT) × Bool) :=
 ((tZ a0 ([])).bind fun i => (if i then some ([], true) else ((ol a0).bind fun a => ((mU (xP (fun (s : ((List kT) × kT × (List js))) (x : (Int × kF)) => rN a0 x.1 x.2 s.1 s.2.1 s.2.2)) (Sum.inl (([]), (⟨0, 0⟩ : kT), ([]))) a.1 a0.ju.jN a0.ju.ky a.2.1 a0.Client.jN a0.Client.ky a.2.2.1 a.2.2.2.1 a.2.2.2.2.1 a0.Formula.Kids a.2.2.2.2.2.1 a.2.2.2.2.2.2.1 a.2.2.2.2.2.2.2.1 a.2.2.2.2.2.2.2.2.1 a.2.2.2.2.2.2.2.2.2 a0.Keys).bind fun g => match g with | .inl (b, k, j) => some (b, false) | .inr (h, d) => some (d, h)))))
def sb (a0 : na) : Option (Int × Bool) :=
 ((sR a0).bind fun a => (if (!a.2) then some (0, false) else some ((a.1.length : Int), true)))
def oC (j : Int) (a2 : js) (g : Int) (a : kF) : Option (Unit ⊕ (Bool × Int)) :=
 ((if (decide (j ≥ 0)) then some (decide (j < 2)) else some false).bind fun h => ((if h then (if (j == 0) then ((pB a.nT a2).bind fun b => some b) else (if (j == 1) then ((pB a.nD a2).bind fun d => some d) else none)) else some false).bind fun i => (if i then some (Sum.inr (true, g)) else some (Sum.inl ()))))
def rr (a0 : na) (h : Int) (a2 : js) : Option (Int × Bool) :=
 ((ol a0).bind fun a => ((mU (xP (fun (s : Unit) (x : (Int × kF)) => oC h a2 x.1 x.2)) (Sum.inl ()) a.1 a0.ju.jN a0.ju.ky a.2.1 a0.Client.jN a0.Client.ky a.2.2.1 a.2.2.2.1 a.2.2.2.2.1 a0.Formula.Kids a.2.2.2.2.2.1 a.2.2.2.2.2.2.1 a.2.2.2.2.2.2.2.1 a.2.2.2.2.2.2.2.2.1 a.2.2.2.2.2.2.2.2.2 a0.Keys).bind fun b => match b with | .inl () => some (0, false) | .inr (d, g) => some (g, d)))
def xW (a0 : na) : Option ((List kT) × Bool) :=
 ((sR a0).bind fun a => some (a.1, a.2))
def qo (a0 : Int) (b : kF) (a : Int) : Option (Bool × Int) :=
 some (true, (wi0 .i64 (a + 1)))
def um  : Option Bool :=
 ((sb (⟨(⟨(⟨#[111, 119, 110]⟩ : ByteArray), [], []⟩ : kL), (⟨(⟨#[99, 108, 105]⟩ : ByteArray), [], []⟩ : kL), (⟨2, 0, (⟨zS, zS⟩ : jr), []⟩ : Formula), 0, (⟨0, 0⟩ : kT), 0, 0, 0, []⟩ : na)).bind fun y => ((EL 1 0 8).bind fun b => ((sb (⟨(⟨(⟨#[111, 119, 110]⟩ : ByteArray), [], []⟩ : kL), (⟨(⟨#[99, 108, 105]⟩ : ByteArray), [(⟨(⟨(⟨1, (⟨(⟨#[120]⟩ : ByteArray), (⟨#[121]⟩ : ByteArray)⟩ : jr), (⟨#[99, 108, 105]⟩ : ByteArray), (⟨zS, zS⟩ : jr), (⟨zS, zS⟩ : jr), zS⟩ : js), b⟩ : Signed), (⟨2, 0, (⟨zS, zS⟩ : jr), []⟩ : Formula)⟩ : kD)], []⟩ : kL), (⟨1, 0, (⟨(⟨#[120]⟩ : ByteArray), (⟨#[121]⟩ : ByteArray)⟩ : jr), []⟩ : Formula), 0, (⟨0, 0⟩ : kT), 0, 0, 0, []⟩ : na)).bind fun h => ((rr (⟨(⟨(⟨#[111, 119, 110]⟩ : ByteArray), [], []⟩ : kL), (⟨(⟨#[99, 108, 105]⟩ : ByteArray), [(⟨(⟨(⟨1, (⟨(⟨#[120]⟩ : ByteArray), (⟨#[121]⟩ : ByteArray)⟩ : jr), (⟨#[99, 108, 105]⟩ : ByteArray), (⟨zS, zS⟩ : jr), (⟨zS, zS⟩ : jr), zS⟩ : js), b⟩ : Signed), (⟨2, 0, (⟨zS, zS⟩ : jr), []⟩ : Formula)⟩ : kD)], []⟩ : kL), (⟨1, 0, (⟨(⟨#[120]⟩ : ByteArray), (⟨#[121]⟩ : ByteArray)⟩ : jr), []⟩ : Formula), 0, (⟨0, 0⟩ : kT), 0, 0, 0, []⟩ : na) 1 (⟨1, (⟨(⟨#[120]⟩ : ByteArray), (⟨#[121]⟩ : ByteArray)⟩ : jr), (⟨#[99, 108, 105]⟩ : ByteArray), (⟨zS, zS⟩ : jr), (⟨zS, zS⟩ : jr), zS⟩ : js)).bind fun i => ((rr (⟨(⟨(⟨#[111, 119, 110]⟩ : ByteArray), [], []⟩ : kL), (⟨(⟨#[99, 108, 105]⟩ : ByteArray), [(⟨(⟨(⟨1, (⟨(⟨#[120]⟩ : ByteArray), (⟨#[121]⟩ : ByteArray)⟩ : jr), (⟨#[99, 108, 105]⟩ : ByteArray), (⟨zS, zS⟩ : jr), (⟨zS, zS⟩ : jr), zS⟩ : js), b⟩ : Signed), (⟨2, 0, (⟨zS, zS⟩ : jr), []⟩ : Formula)⟩ : kD)], []⟩ : kL), (⟨1, 0, (⟨(⟨#[120]⟩ : ByteArray), (⟨#[121]⟩ : ByteArray)⟩ : jr), []⟩ : Formula), 0, (⟨0, 0⟩ : kT), 0, 0, 0, []⟩ : na) 0 (⟨1, (⟨(⟨#[120]⟩ : ByteArray), (⟨#[121]⟩ : ByteArray)⟩ : jr), (⟨#[99, 108, 105]⟩ : ByteArray), (⟨zS, zS⟩ : jr), (⟨zS, zS⟩ : jr), zS⟩ : js)).bind fun w => ((xW (⟨(⟨(⟨#[111, 119, 110]⟩ : ByteArray), [], []⟩ : kL), (⟨(⟨#[99, 108, 105]⟩ : ByteArray), [(⟨(⟨(⟨1, (⟨(⟨#[120]⟩ : ByteArray), (⟨#[121]⟩ : ByteArray)⟩ : jr), (⟨#[99, 108, 105]⟩ : ByteArray), (⟨zS, zS⟩ : jr), (⟨zS, zS⟩ : jr), zS⟩ : js), b⟩ : Signed), (⟨2, 0, (⟨zS, zS⟩ : jr), []⟩ : Formula)⟩ : kD)], []⟩ : kL), (⟨1, 0, (⟨(⟨#[120]⟩ : ByteArray), (⟨#[121]⟩ : ByteArray)⟩ : jr), []⟩ : Formula), 0, (⟨0, 0⟩ : kT), 0, 0, 0, []⟩ : na)).bind fun d => ((ol (⟨(⟨(⟨#[111, 119, 110]⟩ : ByteArray), [], []⟩ : kL), (⟨(⟨#[99, 108, 105]⟩ : ByteArray), [(⟨(⟨(⟨1, (⟨(⟨#[120]⟩ : ByteArray), (⟨#[121]⟩ : ByteArray)⟩ : jr), (⟨#[99, 108, 105]⟩ : ByteArray), (⟨zS, zS⟩ : jr), (⟨zS, zS⟩ : jr), zS⟩ : js), b⟩ : Signed), (⟨2, 0, (⟨zS, zS⟩ : jr), []⟩ : Formula)⟩ : kD)], []⟩ : kL), (⟨1, 0, (⟨(⟨#[120]⟩ : ByteArray), (⟨#[121]⟩ : ByteArray)⟩ : jr), []⟩ : Formula), 0, (⟨0, 0⟩ : kT), 0, 0, 0, []⟩ : na)).bind fun a => ((mU (fun (s : Int) (x : (Int × kF)) => qo x.1 x.2 s) 0 a.1 ([]) ([]) a.2.1 ([(⟨(⟨(⟨1, (⟨(⟨#[120]⟩ : ByteArray), (⟨#[121]⟩ : ByteArray)⟩ : jr), (⟨#[99, 108, 105]⟩ : ByteArray), (⟨zS, zS⟩ : jr), (⟨zS, zS⟩ : jr), zS⟩ : js), b⟩ : Signed), (⟨2, 0, (⟨zS, zS⟩ : jr), []⟩ : Formula)⟩ : kD)]) ([]) a.2.2.1 a.2.2.2.1 a.2.2.2.2.1 ([]) a.2.2.2.2.2.1 a.2.2.2.2.2.2.1 a.2.2.2.2.2.2.2.1 a.2.2.2.2.2.2.2.2.1 a.2.2.2.2.2.2.2.2.2 ([])).bind fun g => ((if (y.1 == 0) then some y.2 else some false).bind fun j => ((if j then some (h.1 == 1) else some false).bind fun k => ((if k then some h.2 else some false).bind fun l => ((if l then some (i.1 == 0) else some false).bind fun m => ((if m then some i.2 else some false).bind fun n => ((if n then some (!w.2) else some false).bind fun p => ((if p then some d.2 else some false).bind fun q => ((if q then some ((d.1.length : Int) == 1) else some false).bind fun r => ((if r then ((lE d.1 0).bind fun v => some (Gq v (⟨0, 1⟩ : kT))) else some false).bind fun t => ((if t then some (g == 1) else some false).bind fun u => some u))))))))))))))))))
def qi (i : List js) : List js → (List js) → Option (List js)
 | [], a => some a
 | h :: b, a => ((xH i h).bind fun g => (if (!g) then ((mn 136 a ([h])).bind fun d => (qi i b d)) else (qi i b a)))
def vI (a0 a : List js) : Option (List js) :=
 qi a a0 ([])
def pL (a0 : na) : Nat → (List js) → (List js) → (List nw) → Option (List nw)
 | 0, _, _, _ => none
 | n + 1, a, b, h => ((((wM a0.ju b a0.Client.Name).bind fun p => ((vI p a).bind fun q => ((wM a0.Client a a0.ju.Name).bind fun r => ((vI r b).bind fun s => some (q, s, ([]), ([])))))) : Option ((List js) × (List js) × (List js) × (List js))).bind fun (d, g, u, v) => ((if ((d.length : Int) == 0) then some ((g.length : Int) == 0) else some false).bind fun t => (if t then some h else ((mn 48 h ([(⟨d, g⟩ : nw)])).bind fun i => ((mn 136 ([]) a).bind fun j => ((mn 136 j d).bind fun k => ((mn 136 ([]) b).bind fun l => ((mn 136 l g).bind fun m => (pL a0 n k m i)))))))))
def xg (a0 : na) : Option (List nw) :=
 pL a0 kd ([]) ([]) ([])
def od (a0 : Int) (l : kF) (m : Bool) (c1 : Int) (c2 : List nw) (n : Int) : Option (Bool × Bool × Int) :=
 ((if m then some (a0 == c1) else some false).bind fun d => ((if d then some (decide (c1 < (c2.length : Int))) else some false).bind fun g => ((if g then ((lE c2 c1).bind fun k => ((wE l.nT k.A).bind fun b => some b)) else some false).bind fun h => ((if h then ((lE c2 c1).bind fun j => ((wE l.nD j.B).bind fun a => some a)) else some false).bind fun i => some ((decide ((wi0 .i64 (c1 + 1)) ≤ (wi0 .i64 n))), i, (wi0 .i64 (c1 + 1)))))))
def oP (a0 : na) (d : Nat) : List js → Option (Bool ⊕ Unit)
 | [] => some (Sum.inr ())
 | g :: b => ((rr a0 0 g).bind fun a => ((if (a.1 != (d : Int)) then some true else some (!a.2)).bind fun h => (if h then some (Sum.inl false) else (oP a0 d b))))
def oQ (a0 : na) : List nw → Nat → Option Bool
 | [], _ => some true
 | g :: d, a => ((oP a0 a g.A).bind fun s => match s with | .inl b => some b | .inr _ => (oQ a0 d (a + 1)))
def ud (a0 : na) (g : Int) : Option Bool :=
 (um.bind fun h => (if (!h) then some false else ((xY a0).bind fun i => (if (decide (i > 6000)) then some true else ((xg a0).bind fun b => ((ol a0).bind fun a => ((mU (fun (s : (Bool × Int)) (x : (Int × kF)) => od x.1 x.2 s.1 s.2 b g) (true, 0) a.1 a0.ju.jN a0.ju.ky a.2.1 a0.Client.jN a0.Client.ky a.2.2.1 a.2.2.2.1 a.2.2.2.2.1 a0.Formula.Kids a.2.2.2.2.2.1 a.2.2.2.2.2.2.1 a.2.2.2.2.2.2.2.1 a.2.2.2.2.2.2.2.2.1 a.2.2.2.2.2.2.2.2.2 a0.Keys).bind fun d => ((if (!d.1) then some true else some (d.2 != (if (wi0 .i64 ((wi0 .i64 g) + 1)) < (b.length : Int) then (wi0 .i64 ((wi0 .i64 g) + 1)) else (b.length : Int)))).bind fun j => (if j then some false else oQ a0 b 0)))))))))
end
end Go.Proofs.YtjjjihkifgdhgaaGreat
