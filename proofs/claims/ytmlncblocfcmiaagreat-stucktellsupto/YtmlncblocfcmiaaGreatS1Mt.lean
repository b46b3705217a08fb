/- a part of a proof of StuckTells -/
import Derived.Test.YtmlncblocfcmiaaGreatRtXt
import Derived.Shelf.SlSortCmp.NoneTotal
import Derived.Shelf.SortM.Plain
import Derived.Shelf.SortM.SortNone
import Derived.Shelf.SlIter.Sorted
import Derived.Shelf.SlIter.Nil
import Derived.Test.YtmlncblocfcmiaaGreatProg
import Derived.KernelRfl
set_option linter.all false
namespace Go.Proofs.YtmlncblocfcmiaaGreat
open Go.RowKit
def Ot (R : List (Nat × Obj)) (k : Nat) (p : Value) (i a : Nat) : Prop := ∃ g o, R = [(g, o)] ∧ p = .pointer (some ⟨g, i * k + a, none⟩)
theorem Ab.f {R : List (Nat × Obj)} {k : Nat} {p : Value} {i : Nat} (h : Ab R k p i) : Ot R k p i 0 := h
section
variable {P : Program} {E : Nat → Value} {W : World} {d : Option Nat} {ty : TypeId} {pos : String} {af : Array Edge} {g : Option (Nat × Bool)}
 {dd : Bool} {F : Nat → Prop} {w : World} {μ : kl} {L : List (Nat × Obj)} {α : Type} {e' : TypeId} {enc : α → List Value} {k : Nat} {v : Value} {l : List α} {R : List (Nat × Obj)}
theorem HA {m : kl} {t : TypeId} {x : Operand} {f off i a : Nat} {p : Value} {ys : List Value} (zs : List Value) (s : lI P t f off) (w : jG E x = p) (v : At m p ys) (hp : Ot R k p i a) (z : (ys.drop off).take zs.length = zs) :
  ∃ l, (At m l zs ∧ Ot R k l i (a + off)) ∧ ∀ W, lQ P E ⟨d, .fieldAddr t x f, ty, pos, af, g⟩ W l W := by
 obtain ⟨n, A, rfl, rfl⟩ := hp
 obtain ⟨b, o, cs, T, fr, q, h1, r⟩ := v
 cases q
 refine ⟨_, ⟨⟨n, (i * k + a) + off, cs, T, fr, rfl, h1, fun j y h => ?_⟩, ⟨n, A, rfl, by rw [ev]⟩⟩, fun W => jC s w⟩
 have u : j < zs.length := (bK.1 h).1
 have := r (off + j) y (by
  rw [← z, dL u, dM] at h
  exact h)
 rw [ev]
 exact this
theorem jT.put (h : jT e' enc k v l R) (hk : ∀ x, (enc x).length = k) {p : Value} {i : Nat} (hp : Ab R k p i) {x0 : α} (s : l[i]? = some x0) (x1 : α) :
  ∃ g cur, R = [(g, .cells cur e' (0, 0))] ∧ p = .pointer (some ⟨g, i * k, none⟩) ∧ i * k + k ≤ cur.size ∧ (∀ j y, (enc x0)[j]? = some y → cur[i * k + j]? = some y) ∧
   jT e' enc k v (l.set i x1) [(g, .cells (cur.toList.take (i * k) ++ enc x1 ++ cur.toList.drop (i * k + k)).toArray e' (0, 0))] := by
 have m : i < l.length := (bK.1 s).1
 obtain ⟨q, cur, cap, rfl, rfl, r, w, d, z, rfl, A⟩ := AO h hk hp s
 have hle : i * k + k ≤ cap * k := by
  have : (i + 1) * k ≤ cap * k := cO _ (by omega)
  rwa [cR, jf] at this
 have a : i * k + k ≤ l.length * k := by
  have : (i + 1) * k ≤ l.length * k := cO _ (by omega)
  rwa [cR, jf] at this
 have hlen : l.length * k ≤ cap * k := cO _ r
 refine ⟨q, cur, rfl, rfl, by rw [d]; exact hle, A, .inr ⟨q, cap, _, by simp, rfl, by simpa using r, w, ?_, ?_⟩⟩
 ·show ((cur.toList.take (i * k) ++ (enc x1) ++ cur.toList.drop (i * k + k)).toArray).size = _
  have b : cur.toList.length = cap * k := by simpa using d
  rw [ew, aF, aF, dF, gS, hk, b, dZ (by omega)]; omega
 ·rw [ie, FH hk l i x1 m, ← z]
  have t : (cur.toList.take (l.length * k)).take (i * k) = cur.toList.take (i * k) := by rw [gE]; congr 1; omega
  have u : (cur.toList.take (l.length * k)).drop (i * k + k) = (cur.toList.drop (i * k + k)).take (l.length * k - (i * k + k)) := by rw [iC]
  rw [t, u]
  show List.take (l.length * k) (cur.toList.take (i * k) ++ enc x1 ++ cur.toList.drop (i * k + k)) = _
  have b : cur.toList.length = cap * k := by simpa using d
  have n : (cur.toList.take (i * k) ++ enc x1).length = i * k + k := by rw [aF, dF, hk, b, dZ (by omega)]
  rw [fI, dW (by rw [n]; exact a), n]
theorem NY {ys us cur : List Value} {a k b : Nat} (l : ys.length = k) (h : ∀ j y, ys[j]? = some y → cur[a + j]? = some y) (g : b + us.length ≤ k) (m : a + k ≤ cur.length) :
  cur.take (a + b) ++ us ++ cur.drop (a + b + us.length) = cur.take a ++ (ys.take b ++ us ++ ys.drop (b + us.length)) ++ cur.drop (a + k) := by
 have e : cur = cur.take a ++ ys ++ cur.drop (a + k) := by
  have h1 : (cur.drop a).take k = ys := by
   refine eO fun j => ?_
   by_cases i : j < k
   ·rw [dL i, dM, cN (by omega : j < ys.length)]
    exact h j _ (cN (by omega))
   ·rw [eT (by simp; omega), eT (by omega)]
  rw [← h1, aP, ← List.drop_drop, fq, fq]
 have d : (cur.take a).length = a := by rw [dF]; omega
 generalize cur.take a = A at e d
 generalize cur.drop (a + k) = D at e
 subst e
 subst d l
 rw [aP A ys D, fU, ev, iv, gZ (by omega), List.drop_append_of_le_length g]
 simp
theorem Ec {β : Type} {Rl : pE β} {l : List β} {B : List (Nat × Obj)} {K : Value → World → Prop} {Y : List (Nat × Obj)} {t : TypeId} {x y : Operand} {Q p u : Value} {i m : Nat} {x0 x1 : β} {ys : List Value} (us : List Value) (O : Deep Rl k) (q : ST dd F w W μ (B ++ Y)) (h : kD e' Rl k μ v l B) (hx : jG E x = p) (I : jG E y = u) (hA : At (zV B) Q ys) (hlen : ys.length = k) (hp : Ab B k Q i) (hf : Ot B k p i m) (hl : l[i]? = some x0) (hu : u.cells.toList = us) (G : Rl μ (ys.take m ++ us ++ ys.drop (m + us.length)) x1) (hS : ∀ w, (sizeOf t).run P w = .ok us.length w) (hb : m + us.length ≤ k) (hK : ∀ W' R', ST dd F w W' μ (R' ++ Y) → kD e' Rl k μ v (l.set i x1) R' → K undef W') : nn P E ⟨d, .store t x y, ty, pos, af, g⟩ W K := by
 obtain ⟨cl, h1, M⟩ := h
 obtain ⟨c, hc, _⟩ := M.get hl
 obtain ⟨L, cur, rfl, rfl, q1, _, q2⟩ := jT.put h1 yH hp hc (O.cell G)
 obtain ⟨_, _, R, rfl⟩ := hf
 cases R
 obtain ⟨b, o, cs, T, fr, U, J, a2⟩ := hA
 cases U
 have Z : cs = cur := by
  simp only [zV, List.find?_cons_of_pos, aW, eE, fX, Obj.cells.injEq] at J
  exact J.1.symm
 subst Z
 have s := (q.box L (.cells cs e' (0, 0)) (by simp)).1
 have n : u.cells.size = us.length := by rw [← hu]; simp
 have D := NY (us := us) (cur := cs.toList) (a := i * k) hlen (fun j y I => by simpa using a2 j y I) hb (by simpa using q1)
 refine .inr (.inl ⟨W.setRow L (cs.toList.take (i * k) ++ (ys.take m ++ us ++ ys.drop (m + us.length)) ++ cs.toList.drop (i * k + k)).toArray, ?_, hK _ _ (ST.store (A := []) q _) ⟨_, q2, M.set G i⟩⟩)
 show (do Instr.storeAt t (jG E x) (jG E y); pure .skip : Sem Next).run P W = _
 rw [hx, I]
 have r : ∀ z ∈ us, z.oneCell' = true := fun z hz => O.one G z (by simp [hz])
 have := yZ P (off := i * k + m) u (by rw [n]; exact hS) (by rw [hu]; exact r) s (by rw [n]; omega)
 simp only [cF, this, bT, dC, n]
 rw [hu, D]
end
end Go.Proofs.YtmlncblocfcmiaaGreat
namespace Go.Proofs.YtmlncblocfcmiaaGreat
open Go.RowKit
theorem oc {v : Value} (h : v.cells.toList.all Value.oneCell' = true := by exact rfl) : ∀ u ∈ v.cells.toList, u.oneCell' = true := fJ.1 h
theorem dc {p : Prop} [Decidable p] (h : p := by decide) : p := h
theorem kr {p : Prop} (h : p := by kernel_rfl) : p := h
theorem br {α : Sort _} {a b : α} (h : a = b := by rfl) : a = b := h
abbrev LO := List (Nat × Obj)
abbrev Ob (c : Array Value) (t : TypeId) : Obj := .cells c t (0, 0)
abbrev Ol (c : List Value) (t : TypeId) : Obj := .cells c.toArray t (0, 0)
theorem lW {P : Program} {t e : TypeId} {m k : Nat} {z : Value} {a : Array (Nat × Value)} {cs : Array Value} (j : P.underlying t = some (.slice e)) (i : ∀ w, (sizeOf e).run P w = .ok k w) (n : ∀ w, (zeroValue e).run P w = .ok z w) (hm : m * k ≤ 16777216 := by decide) (g : a.toList = (a.toList.map (·.2)).zipIdx.map (fun p => (p.2, p.1)) := by exact rfl) (l : (a.toList.map (·.2)).all (fun v => v.cells.size == k) = true := by exact rfl) (d : (a.toList.map (·.2)).length = m := by exact rfl) (b : ((a.toList.map (·.2)).flatMap (fun v => v.cells.toList)).toArray = cs := by exact rfl) (W : World) :
  (Instr.buildSlice t m a).run P W = .ok (.slice (some ⟨W.heap.size, 0, none⟩) m m) (W.alloc (.cells cs e (0, 0))) :=
 yS _ j i n hm g (fun v h => eq_of_beq (fJ.1 l v h)) d b W
section
variable {dd : Bool} {P : Program} {fn : Func} {E : Nat → Value} {W w : World} {μ : kl} {L L0 : List (Nat × Obj)}
theorem rQ {α : Type} {f : α → Value} {a r : α} {t : Tmp} (hm : some a = some r) (b : ST dd ku w W μ L) (d : fn.results = #[.tmp t] := by exact rfl) (g : E t = f a := by exact rfl) : xM P fn (fun e W' => e = .returned (f r) ∧ Ex dd w W') .ret E W := by
 obtain rfl := sj hm; exact kY d g ⟨rfl, b.ex⟩
theorem cG (n : Nat) {f : FuncId} {c : Code} {args : List Value} {v : Value} (a : P.funcs[f]? = some fn) (b : fn.body = some c) (h : ST dd ku w w (hp w) [] → CW P n c (xM P fn (fun e i => e = .returned v ∧ Ex dd w i)) (Cv args) w) (g : fn.ntmps = n := by exact rfl) (d : args.length ≤ n := by exact nb) : jS dd P f args w v := zd a b g d (h (ST.start w))
theorem tF {K : Value → List (Nat × Obj) → World → Prop} (n : Nat) {f : FuncId} {c : Code} {args : List Value} (a : P.funcs[f]? = some fn) (d : fn.body = some c) (h : ST dd ku w w (hp w) [] → CW P n c (xM P fn (fun e b => ∃ v L1, e = .returned v ∧ tT dd [] L1 w b ∧ K v L1 b)) (Cv args) w) (i : fn.ntmps = n := by exact rfl) (g : args.length ≤ n := by exact nb) : lF dd P f args w [] K := zd a d i g (h (ST.start w))
theorem AS {K : Value → List (Nat × Obj) → World → Prop} (d : nB μ L0 w) (n : Nat) {f : FuncId} {c : Code} {args : List Value} (a : P.funcs[f]? = some fn) (g : fn.body = some c) (h : ST dd (keys L0) w w μ L0 → CW P n c (xM P fn (fun e b => ∃ v L1, e = .returned v ∧ tT dd L0 L1 w b ∧ K v L1 b)) (Cv args) w) (j : fn.ntmps = n := by exact rfl) (i : args.length ≤ n := by exact nb) : lF dd P f args w L0 K := zd a g j i (h (ST.LI d))
theorem tE {K : Value → List (Nat × Obj) → kl → Prop} (d : nB μ L0 w) (n : Nat) {f : FuncId} {c : Code} {args : List Value} (a : P.funcs[f]? = some fn) (g : fn.body = some c) (h : ST dd (keys L0) w w μ L0 → CW P n c (xM P fn (fun e b => ∃ v L1 μ1, e = .returned v ∧ tT dd L0 L1 w b ∧ kd μ μ1 ∧ Lo (keys L0) w μ μ1 ∧ kd μ1 (uc b L1) ∧ K v L1 μ1)) (Cv args) w) (j : fn.ntmps = n := by exact rfl) (i : args.length ≤ n := by exact nb) : lB dd P f args w μ L0 K := zd a g j i (h (ST.LI d))
end
section
variable {dd : Bool}
variable {P : Program} {E : Nat → Value} {W : World} {d : Option Nat} {ty : TypeId} {pos : String} {af : Array Edge} {g : Option (Nat × Bool)}
 {F : Nat → Prop} {w : World} {μ : kl} {L : List (Nat × Obj)}
variable {f : FuncId} {fv : Operand} {ax : Array Operand} {ats : Array TypeId} {args : List Value} {v : Value} {K : Value → World → Prop}
theorem eM {K' : Value → List (Nat × Obj) → World → Prop} {L0 L2 : List (Nat × Obj)} (i : ST dd F w W μ L) (j : L.Perm (L0 ++ L2)) (he : ∀ args w, (callFunc f args).run P w = .ok (.enter f args) w) (k : nB (uc W L0) L0 W → kd μ (uc W L0) → lF dd P f args W L0 K') (h : ∀ W' v μ' L1, ST dd F w W' μ' (L1 ++ L2) → kd μ μ' → Lo F w μ μ' → (∀ b, W.heap.size ≤ b → ∀ o, uc W' L1 b = some o → μ' b = some o) → K' v L1 W' → K v W') (l : jG E fv = .func (.func f) #[] #[] := by exact rfl) (ha : ax.toList.map (jG E) = args := by exact rfl) : nn P E ⟨d, .call ⟨.value fv, ax, ats⟩, ty, pos, af, g⟩ W K :=
 zI i j he (fun a b c _ => k ⟨a, b, kd.refl _⟩ c) h l ha
theorem eD {K' : Value → List (Nat × Obj) → kl → Prop} {L0 L2 : List (Nat × Obj)} (i : ST dd F w W μ L) (j : L.Perm (L0 ++ L2)) (he : ∀ args w, (callFunc f args).run P w = .ok (.enter f args) w) (k : nB μ L0 W → lB dd P f args W μ L0 K') (h : ∀ W' v μ' L1, ST dd F w W' μ' (L1 ++ L2) → kd μ μ' → Lo F w μ μ' → K' v L1 μ' → K v W') (l : jG E fv = .func (.func f) #[] #[] := by exact rfl) (ha : ax.toList.map (jG E) = args := by exact rfl) : nn P E ⟨d, .call ⟨.value fv, ax, ats⟩, ty, pos, af, g⟩ W K :=
 Kz i j he (fun a b c _ => k ⟨a, b, c⟩) h l ha
end
def Mw (op : BinOp) : Value → Value → Option Value
 | .int k a, .int k' b => if k = k' then Ii k op a b else none
 | _, _ => none
def PA (i : Nat) : Value → Option Value
 | .tuple vs => vs[i]?
 | _ => none
def Ij : Value → Bool
 | .pointer (some ⟨_, _, none⟩) => true
 | _ => false
def Qg (o : Nat) : Value → Value
 | .pointer (some ⟨b, k, none⟩) => .pointer (some ⟨b, k + o, none⟩)
 | v => v
theorem HD {v : Value} (h : Ij v = true) : ∃ b k, v = .pointer (some ⟨b, k, none⟩) := by
 unfold Ij at h; split at h
 ·exact ⟨_, _, rfl⟩
 ·cases h
section
variable {P : Program} {n : Nat} {Q : qF} {E : Nat → Value} {W : World} {ops : Array Oper} {rest : List Oper}
 {d j t : Nat} {want b : Bool} {v : Value} {ins : Go.Op} {ty : TypeId} {pos : String} {af : Array Edge} {A : Value → Prop} {x y : Operand}
theorem Wm (h : LW P n ops Q rest (nQ E d (jG E x)) W) (a : d < n := by decide) : LW P n ops Q (⟨some d, .move x, ty, pos, af, none⟩ :: rest) E W := V (jE rfl) h a
theorem Wa (h : LW P n ops Q rest (nQ E d (jG E x)) W) (a : d < n := by decide) : LW P n ops Q (⟨some d, .assign x, ty, pos, af, none⟩ :: rest) E W := V (nu rfl) h a
theorem Wh (b : jG E x = v) (h : LW P n ops Q rest (nQ E d v) W) (a : d < n := by decide) : LW P n ops Q (⟨some d, .move x, ty, pos, af, none⟩ :: rest) E W := V (jE b) h a
theorem Wg (b : jG E x = v) (h : LW P n ops Q rest (nQ E d v) W) (a : d < n := by decide) : LW P n ops Q (⟨some d, .assign x, ty, pos, af, none⟩ :: rest) E W := V (nu b) h a
theorem Wx {i : Nat} (a : PA i (jG E x) = some v) (h : LW P n ops Q rest (nQ E d v) W) (b : d < n := by decide) : LW P n ops Q (⟨some d, .extract x i, ty, pos, af, none⟩ :: rest) E W := by
 unfold PA at a; split at a
 ·rename_i vs e; exact V (Ek e a) h b
 ·cases a
theorem Wi {op : BinOp} {p m : TypeId} (g : Mw op (jG E x) (jG E y) = some v) (h : LW P n ops Q rest (nQ E d v) W) (l : d < n := by decide) : LW P n ops Q (⟨some d, .binOp op p x y m, ty, pos, af, none⟩ :: rest) E W := by
 unfold Mw at g; split at g
 ·rename_i k a k' b i j
  split at g
  ·rename_i e; subst e; exact V (kx i j g) h l
  ·cases g
 ·cases g
theorem Wf {t : TypeId} {f off : Nat} (a : lI P t f off) (h : LW P n ops Q rest (nQ E d (Qg off (jG E x))) W) (hp : Ij (jG E x) = true := by exact rfl) (g : d < n := by decide) : LW P n ops Q (⟨some d, .fieldAddr t x f, ty, pos, af, none⟩ :: rest) E W := by
 obtain ⟨b, k, e⟩ := HD hp
 refine V (jC a e) ?_ g
 rw [e] at h; exact h
theorem Wn (h : LW P n ops Q rest (nQ E d (jG E x)) W) (hp : Ij (jG E x) = true := by exact rfl) (a : d < n := by decide) : LW P n ops Q (⟨some d, .nilCheck x, ty, pos, af, none⟩ :: rest) E W := by
 obtain ⟨b, k, e⟩ := HD hp
 refine V (mW e) ?_ a
 rw [e] at h; exact h
theorem un (h : b = !want) (k : LW P n ops Q rest (nQ E d undef) W) (g : (ops[j]?).bind (·.dst) = some t := by exact rfl) (a : E t = .bool b := by exact rfl) (l : t < n := by decide) (i : d < n := by decide) :
  LW P n ops Q (⟨some d, ins, ty, pos, af, some (j, want)⟩ :: rest) E W := Vn g (by rw [a, h]) k l i
theorem ug (h : b = want) (l : lQ P E ⟨some d, ins, ty, pos, af, some (j, want)⟩ W v W) (k : LW P n ops Q rest (nQ E d v) W) (g : (ops[j]?).bind (·.dst) = some t := by exact rfl) (a : E t = .bool b := by exact rfl) (m : t < n := by decide) (i : d < n := by decide) :
  LW P n ops Q (⟨some d, ins, ty, pos, af, some (j, want)⟩ :: rest) E W := Vg g (by rw [a, h]) l k m i
theorem qI (h : b = want) (k : nn P E ⟨some d, ins, ty, pos, af, some (j, want)⟩ W fun v W' => LW P n ops Q rest (nQ E d v) W') (g : (ops[j]?).bind (·.dst) = some t := by exact rfl) (a : E t = .bool b := by exact rfl) (l : t < n := by decide) (i : d < n := by decide) :
  LW P n ops Q (⟨some d, ins, ty, pos, af, some (j, want)⟩ :: rest) E W := LC g (by rw [a, h]) k l i
theorem RZ (h : b = want) (l : ∃ p, A p ∧ ∀ W, lQ P E ⟨some d, ins, ty, pos, af, some (j, want)⟩ W p W) (k : ∀ p, A p → LW P n ops Q rest (nQ E d p) W) (g : (ops[j]?).bind (·.dst) = some t := by exact rfl) (a : E t = .bool b := by exact rfl) (m : t < n := by decide) (i : d < n := by decide) :
  LW P n ops Q (⟨some d, ins, ty, pos, af, some (j, want)⟩ :: rest) E W := Sh g (by rw [a, h]) l k m i
section
variable {dd : Bool} {F : Nat → Prop} {w : World} {μ : kl} {L : List (Nat × Obj)} {T : TypeId} {a off : Nat} {cs : Array Value} {fr : Nat × Nat}
theorem VA {t : TypeId} (b : ST dd F w W μ L) (i : (a, Obj.cells cs T fr) ∈ L) (ys : List Value) (g : ∀ w, (isAgg t).run P w = .ok true w) (j : ∀ w, (sizeOf t).run P w = .ok ys.length w) (h : LW P n ops Q rest (nQ E d (.agg ys.toArray)) W) (l : jG E x = .pointer (some ⟨a, off, none⟩) := by exact rfl) (m : (cs.toList.drop off).take ys.length = ys := by exact rfl) (k : d < n := by decide) : LW P n ops Q (⟨some d, .load t x, ty, pos, af, none⟩ :: rest) E W := V (jw l (jz b.has i ys m g j)) h k
theorem VB {t : TypeId} (b : ST dd F w W μ L) (i : (a, Obj.cells cs T fr) ∈ L) (k : jG E x = .pointer (some ⟨a, off, none⟩)) (l : cs[off]? = some v) (g : ∀ w, (isAgg t).run P w = .ok false w) (h : LW P n ops Q rest (nQ E d v) W) (j : d < n := by decide) : LW P n ops Q (⟨some d, .load t x, ty, pos, af, none⟩ :: rest) E W := V (jw k (jO b.has i l g)) h j
end
section
variable {K : (Nat → Value) → World → Prop} {Q' : qF} {c : Code} {id id2 : Nat} {l : List Oper} {z : Code}
theorem sg (h : LW P n l.toArray (qo (fun E W => CW P n c Q E W) Q) l E W) : CW P n (.seq (.region id l.toArray false) c) Q E W := jK (jI h)
theorem ln (h : K E W) : LW P n ops (qo K Q) [] E W := jW (jF h)
theorem lr (h : LW P n l.toArray (qo (fun E W => CW P n c Q E W) Q) l E W) : LW P n ops (qo (fun E W => CW P n (.seq (.region id l.toArray false) c) Q E W) Q') [] E W := jW (jF (jK (jI h)))
theorem lS (h : LW P n l.toArray (qo (fun E W => CW P n c (qo (fun E W => CW P n z Q E W) Q) E W) (qo (fun E W => CW P n z Q E W) Q)) l E W) : LW P n ops (qo (fun E W => CW P n (.seq (.seq (.region id l.toArray false) c) z) Q E W) Q') [] E W := jW (jF (jK (jK (jI h))))
theorem bg (h : LW P n l.toArray (qo (fun E W => CW P n c (wC id2 Q) E W) (wC id2 Q)) l E W) : CW P n (.block id2 (.seq (.region id l.toArray false) c)) Q E W := ll (jK (jI h))
theorem kg (h : LW P n l.toArray (qo (fun E W => CW P n c Q E W) Q) l E W) : CW P n .skip (qo (fun E W => CW P n (.seq (.region id l.toArray false) c) Q E W) Q') E W := kP (jF (jK (jI h)))
theorem kS (h : LW P n l.toArray (qo (fun E W => CW P n c (qo (fun E W => CW P n z Q E W) Q) E W) (qo (fun E W => CW P n z Q E W) Q)) l E W) : CW P n .skip (qo (fun E W => CW P n (.seq (.seq (.region id l.toArray false) c) z) Q E W) Q') E W := kP (jF (jK (jK (jI h))))
theorem lt (h : Q .ret E W) : LW P n ops (qo (fun E W => CW P n .ret Q E W) Q') [] E W := jW (jF (jU h))
theorem kn (h : K E W) : CW P n .skip (qo K Q) E W := kP (jF h)
end
end
end Go.Proofs.YtmlncblocfcmiaaGreat
namespace Go.Proofs.YtmlncblocfcmiaaGreat
open Go.Sort Go.Proofs Go.Shelf
theorem FG {g b : Nat} {o : Obj} : keys [(g, o)] b ↔ b = g := by
 constructor
 ·rintro ⟨a, h⟩
  simp at h
  exact h.1
 ·rintro rfl; exact ⟨o, by simp⟩
theorem Bw (w : World) (g m : Nat) (f : Array Value → Array Value) (os : Array Obj) (b : Nat) (d : b < w.heap.size) :
  (Go.Sort.grow (mapBlock (Go.Sort.ahead w m) g f) os).heap[b]? = if g = b then w.heap[b]?.map (onCells f) else w.heap[b]? := by
 have a : b < (mapBlock (Go.Sort.ahead w m) g f).heap.size := by simp only [mapBlock, Go.Sort.ahead, Array.size_modify]; exact d
 rw [heap_grow_old _ _ a]
 simp only [mapBlock, Go.Sort.ahead, ey]
theorem JN {w : World} {g m : Nat} {f : Array Value → Array Value} {os : Array Obj} {cs : Array Value} {T : TypeId} {fr : Nat × Nat} (d : w.heap[g]? = some (.cells cs T fr)) :
  tT true [(g, .cells cs T fr)] [(g, .cells (f cs) T fr)] w (Go.Sort.grow (mapBlock (Go.Sort.ahead w m) g f) os) := by
 have a : g < w.heap.size := (dQ.1 d).1
 refine ⟨⟨rfl, rfl, rfl, ?_, ?_, fun b i j => ?_⟩, fun b o h => ?_, by simp⟩
 ·refine tR.of ?_
  show w.drawn ≤ w.drawn + m
  omega
 ·show w.heap.size ≤ (w.heap.modify g (onCells f) ++ os).size
  simp
 ·rw [Bw _ _ _ _ _ _ i, bI fun h => j (FG.2 h.symm)]
 ·simp only [aR, dR, gd, Prod.mk.injEq] at h
  obtain ⟨rfl, rfl⟩ := h
  refine ⟨?_, .inr (FG.2 rfl)⟩
  rw [Bw _ _ _ _ _ _ a, bD rfl, d]
  rfl
theorem KD {w W : World} (h : Ex true w W) : ∃ q os, W = Go.Sort.grow (w.drewN q) os := by
 refine ⟨W.drawn - w.drawn, W.heap.extract w.heap.size W.heap.size, ?_⟩
 have g : W.heap = w.heap ++ W.heap.extract w.heap.size W.heap.size := by
  apply Array.ext_getElem?
  intro i
  rw [Array.getElem?_append]
  split
  ·rename_i j; exact h.mo i j
  ·rename_i j
   rw [Array.getElem?_extract]
   have l := h.size
   split
   ·rw [show w.heap.size + (i - w.heap.size) = i by omega]
   ·exact Array.getElem?_eq_none (by omega)
 obtain ⟨h1, m, n, p, r⟩ := W
 have a := h.os; have b := h.tape; have d := h.output; have k := h.drawn rfl
 simp only at a b d k g
 unfold Go.Sort.grow World.drewN
 simp only [World.mk.injEq]
 exact ⟨g, b, by omega, a, d⟩
theorem J6 {α : Type} [Inhabited α] {enc : α → List Value} {k : Nat} (hk : ∀ x, (enc x).length = k) (l : List α) (j : Nat) (a : j < l.length * k) :
  (l.map enc).flatten[j]? = some ((flatK enc k l.toArray)[j]!) := by
 have g : 0 < k := by
  cases k with
  | zero => simp at a
  | succ n => omega
 have h1 : j / k < l.length := (gP g).2 a
 rw [get_flatK _ _ _ _ (by simpa using a)]
 have h : l.toArray[j / k]! = l[j / k] := by
  rw [getElem!_pos l.toArray (j / k) (by simpa using h1)]; simp
 rw [h]
 have b : j % k < (enc l[j / k]).length := by rw [hk]; exact Nat.mod_lt _ g
 have d := wE hk l (j / k) l[j / k] (cN h1) (j % k) ((enc l[j / k])[j % k]) (cN b)
 rw [Nat.div_add_mod' j k] at d
 rw [d, getElem!_pos (enc l[j / k]) (j % k) b]
theorem H7 {α : Type} [Inhabited α] {enc : α → List Value} {k : Nat} (hk : ∀ x, (enc x).length = k) {w : World} {g : Nat} {cs : Array Value} {T : TypeId} (b : w.heap[g]? = some (.cells cs T (0, 0))) (l : List α)
  (h : cs.toList.take (l.length * k) = (l.map enc).flatten) : HoldsK enc k w g 0 l.toArray := by
 intro j d
 have a : j < l.length * k := by simpa using d
 have h1 := J6 hk l j a
 rw [← h, fM, bD a] at h1
 refine ⟨?_, ?_⟩
 ·simp only [World.cell?, b, fe]
  simpa using h1
 ·simp [World.frozen?, b]
theorem JQ {α : Type} [Inhabited α] {enc : α → List Value} {k : Nat} (hk : ∀ x, (enc x).length = k) {cs : Array Value} (l : List α) (b : l.length * k ≤ cs.size) :
  (putCells id 0 (flatK enc k l.toArray) cs).toList.take (l.length * k) = (l.map enc).flatten := by
 apply eO
 intro j
 rw [fM]
 split
 ·rename_i a
  rw [J6 hk l j a]
  simp only [putCells, ek, Array.getElem?_mapIdx, size_flatK, ew]
  rw [Array.getElem?_eq_getElem (by omega)]
  simp [a]
 ·rename_i a
  rw [eT (by rw [pL hk]; omega)]
theorem HT (enc : Value → Value) (o : Nat) (d c : Array Value) : (putCells enc o d c).size = c.size := by simp [putCells]
section
variable {α : Type} {P : Program} {ρ : Ren}
theorem Py {l : List α} {cf : α × α → Option Int} (h : DC cf l) : SWO (ltOf fun (x y : {x // x ∈ l}) => (cf (x.1, y.1)).getD 0) ∧
  (∀ x y : {x // x ∈ l}, ltOf (fun (x y : {x // x ∈ l}) => (cf (x.1, y.1)).getD 0) x y = ul cf x.1 y.1) := by
 have e : ∀ x y : {x // x ∈ l}, ltOf (fun (x y : {x // x ∈ l}) => (cf (x.1, y.1)).getD 0) x y = ul cf x.1 y.1 := fun x y => by
  obtain ⟨c, g⟩ := h.is x.1 x.2 y.1 y.2
  simp [ltOf, ul, g]
 refine ⟨⟨fun x => ?_, fun x y z => ?_, fun x y z => ?_⟩, e⟩
 ·rw [e]; exact h.irrefl _ x.2
 ·rw [e, e, e]; exact h.trans _ x.2 _ y.2 _ z.2
 ·rw [e, e, e]
  intro h1 b
  cases a : ul cf x.1 z.1 with
  | false => rfl
  | true =>
   cases d : ul cf y.1 x.1 with
   | true =>
    have := h.trans _ y.2 _ x.2 _ z.2 d a
    rw [b] at this; cases this
   | false =>
    have := h.total _ x.2 _ y.2 h1 d
    rw [this, b] at a; cases a
theorem JK (L : SlLaysF0.n6 P ρ) (k : Nat) (aE : ∀ w, (isAgg (ρ.t 24)).run P w = .ok true w) (zE : ∀ w, (Go.sizeOf (ρ.t 24)).run P w = .ok k w) {e : TypeId} (enc : α → List Value) (hk : ∀ x, (enc x).length = k) (h1 : ∀ x, ∀ u ∈ enc x, u.oneCell' = true) {v fv : Value} {l r : List α} {R : List (Nat × Obj)} {cf : α × α → Option Int} {w : World} {μ0 : kl} (hH : Ei (R ++ []) w) (z : kd μ0 (uc w (R ++ []))) (T : jT e enc k v l R) (hc : Rz P fv μ0 (fun (x : α × α) => [(.agg (enc x.1).toArray), (.agg (enc x.2).toArray)]) (fun (r : Int) => (.int .i64 r)) cf) (hm : zp cf l = some r) :
  lF true P (ρ.f 6) [v, fv] w (R ++ []) (fun u L1 _ => ∃ (S : List (Nat × Obj)), u = (.tuple #[]) ∧ L1 = (S ++ []) ∧ jT e enc k v r S) := by
 obtain ⟨ok, rfl⟩ := FY hm
 rw [bH] at hH z ⊢
 rcases eU l.length with h0 | i
 ·have hl : l = [] := aU h0
  subst hl
  have U : tD cf ([] : List α) = [] := by simp [tD]
  rw [U]
  obtain ⟨p, c, rfl⟩ : ∃ p c, v = .slice p 0 c := by
   rcases T with ⟨rfl, _, _⟩ | ⟨g, cap, cur, rfl, _⟩
   ·exact ⟨_, _, rfl⟩
   ·exact ⟨_, _, rfl⟩
  refine dV (AnyF.slices_SortFunc_none L p c fv w) fun x w' ⟨hx, hw⟩ => ?_
  subst hx hw
  refine ⟨_, R, rfl, ⟨⟨rfl, rfl, rfl, tR.of (aY _), aY _, fun _ _ _ => rfl⟩, fun b o h => ⟨hH b o h, .inr ⟨o, h⟩⟩, ?_⟩, R, rfl, (bH R).symm, T⟩
  rcases T with ⟨_, _, rfl⟩ | ⟨g, cap, cur, _, rfl, _⟩ <;> simp
 ·rcases T with ⟨_, rfl, _⟩ | ⟨g, cap, cur, rfl, rfl, a1, Z, G, aa⟩
  ·simp at i
  have hg : w.heap[g]? = some (.cells cur e (0, 0)) := hH g _ (by simp)
  have a6 : g < w.heap.size := (dQ.1 hg).1
  haveI : Inhabited {x // x ∈ l} := ⟨⟨l[0], List.getElem_mem i⟩⟩
  obtain ⟨gg, caps, rfl, I, j⟩ := hc
  obtain ⟨hO, J⟩ := Py ok
  have A : l.attach.toArray.size = l.length := by simp
  have a7 : l.attach.map (fun x => enc x.1) = l.map enc := by
   rw [show (fun x : {x // x ∈ l} => enc x.1) = enc ∘ Subtype.val from rfl, ← fg, List.attach_map_subtype_val]
  have W : HoldsK (fun x : {x // x ∈ l} => enc x.1) k w g 0 l.attach.toArray := H7 (fun x => hk x.1) hg l.attach (by rw [a7, List.length_attach, aa])
  have F : CmpLays P gg caps (fun x : {x // x ∈ l} => enc x.1) k (fun x y => (cf (x.1, y.1)).getD 0) g 0 l.attach.toArray.size w := by
   intro m os dk ad x y
   obtain ⟨c, E⟩ := ok.is x.1 x.2 y.1 y.2
   have Q : kd μ0 (hp (sortWorldK (fun x : {x // x ∈ l} => enc x.1) k w g 0 m dk os)) := fun b o hb => by
    have q := z b o hb
    unfold uc at q
    split at q
    ·cases q
    ·rename_i hn
     have Y : b < w.heap.size := (dQ.1 q).1
     show (Go.Sort.grow (mapBlock (Go.Sort.ahead w m) g _) os).heap[b]? = _
     rw [Bw _ _ _ _ _ _ Y, bI fun h => hn (FG.2 h.symm)]
     exact q
   have h3 := j (sortWorldK (fun x : {x // x ∈ l} => enc x.1) k w g 0 m dk os) (x.1, y.1) c Q E
   have ea : ([Value.agg (enc x.1).toArray, Value.agg (enc y.1).toArray] ++ caps.toList).toArray = #[Value.agg (enc x.1).toArray, Value.agg (enc y.1).toArray] ++ caps := by
    apply Array.ext'; simp
   rw [← ea]
   exact dV h3 fun u W' hu => ⟨by rw [hu.1]; show _ = Ending.returned (.int .i64 ((cf (x.1, y.1)).getD 0)); rw [E]; rfl, KD hu.2⟩
  have hT : ∀ x y : {x // x ∈ l}, ltOf (fun (x y : {x // x ∈ l}) => (cf (x.1, y.1)).getD 0) x y = false → ltOf (fun (x y : {x // x ∈ l}) => (cf (x.1, y.1)).getD 0) y x = false → x = y := fun x y a b => by
   rw [J] at a b
   exact Subtype.ext (ok.total _ x.2 _ y.2 a b)
  have d := AnyQ.slices_SortFunc_total L k aE zE (fun x : {x // x ∈ l} => enc x.1) (fun x => hk x.1) (fun x => h1 x.1) (fun x y => (cf (x.1, y.1)).getD 0) hO gg caps g 0 cap l.attach.toArray w I F W a6 (by rw [A]; exact ok.short) hT
  rw [A] at d
  refine dV d fun u w' ⟨hu, n, os, hw⟩ => ?_
  subst hu
  generalize U : l.attach.toArray.toList.mergeSort (fun x y => !ltOf (fun (x y : {x // x ∈ l}) => (cf (x.1, y.1)).getD 0) y x) = s at hw
  have a8 : s.map Subtype.val = tD cf l := by
   rw [← U, iD (s := fun x y => !ul cf y x) (fun a _ b _ => by rw [J])]
   simp [tD]
  have O : s.length = l.length := by rw [← U, List.length_mergeSort]; simp
  have M : (tD cf l).length = l.length := by simp [tD, List.length_mergeSort]
  have D := JN (w := w) (m := n) (f := putCells id 0 (flatK (fun x : {x // x ∈ l} => enc x.1) k s.toArray)) (os := os) hg
  have ab : w' = Go.Sort.grow (mapBlock (Go.Sort.ahead w n) g (putCells id 0 (flatK (fun x : {x // x ∈ l} => enc x.1) k s.toArray))) os := hw
  rw [← ab] at D
  refine ⟨_, _, rfl, D, _, rfl, (bH _).symm, .inr ⟨g, cap, _, by rw [M], rfl, by omega, Z, by rw [HT, G], ?_⟩⟩
  rw [M, ← O, JQ (fun x => hk x.1) s (by rw [O, G]; exact cO k a1), ← a8, fg]
  rfl
end
end Go.Proofs.YtmlncblocfcmiaaGreat
namespace Go.Proofs.YtmlncblocfcmiaaGreat
open Go.Sort Go.Proofs Go.Shelf
theorem Dl (b : ByteArray) : b.toList = b.data.toList := by rw [fF]
theorem Qe (l : List ByteArray) : (l.map sU).flatten = l.map Value.string := by
 induction l with
 | nil => rfl
 | cons x l ih => simp only [bP, bQ, ih]; rfl
theorem N4 (l : List ByteArray) : (uP l).map (fun b => b.data.toList) = (l.map (fun b => b.data.toList)).mergeSort (fun x y => decide (x ≤ y)) := by
 unfold uP
 refine iD fun a _ b _ => ?_
 unfold pI
 rw [bytesLess_eq, Dl, Dl]
 by_cases h : a.data.toList ≤ b.data.toList
 ·have d : ¬ b.data.toList < a.data.toList := List.not_lt.2 h
  simp [h, d]
 ·have d : b.data.toList < a.data.toList := by
   cases Decidable.em (b.data.toList < a.data.toList) with
   | inl g => exact g
   | inr g => exact absurd (List.not_lt.1 g) h
  simp [h, d]
end Go.Proofs.YtmlncblocfcmiaaGreat
namespace Go.Proofs.YtmlncblocfcmiaaGreat
open Go.WideElems Go.WideShapes Go.Sort Go.Proofs Go.Shelf
theorem JL {β : Type} {vf : β → Value} {P : Program} {kt : TypeId} (A : P.underlying kt = some .string) {l : List (ByteArray × β)} {es : Array MapEntry} {clock : Nat} (h : uC Value.string vf l es clock) (y : (l.map (·.1)).Nodup) (z : ∀ p ∈ l, p.1.size ≤ maxLen) (w : l.length ≤ maxLen) {W : World} {b : Nat} (u : W.heap[b]? = some (.map es clock)) : ∃ D : DataW Unit, W.ownsMap P kt (fun _ => some (.lit (.bool true), [])) b es.size D ∧ (strKeys D).Perm (l.map (fun p => p.1.data.toList)) ∧ Maps.size D = l.length := by
 have d := h.keys
 have n : ∀ x ∈ es.toList, ∃ s : ByteArray, x.key = .string s ∧ s.size ≤ maxLen := fun x j => by
  have h1 : x.key ∈ es.toList.map (·.key) := bL.2 ⟨x, j, rfl⟩
  rw [d] at h1
  obtain ⟨s, i, k⟩ := bL.1 h1
  obtain ⟨p, r, t⟩ := bL.1 i
  exact ⟨s, k.symm, by rw [← t]; exact z p r⟩
 have g : ∀ x ∈ es.toList, ∃ s : ByteArray, x.key = .string s ∧ Go.WideElems.rd (H := Unit) P kt (fun _ => some (.lit (.bool true), [])) x = some (.string s.data.toList, .lit (.bool true)) := fun x j => by
  obtain ⟨s, h1, i⟩ := n x j
  refine ⟨s, h1, ?_⟩
  simp [Go.WideElems.rd, keyOf, A, mapKey, h1, i]
 refine ⟨_, ⟨es, clock, u, ⟨by rw [h.length]; exact w, ⟨h.lt, ?_, ?_⟩, fun x j => ?_⟩, aY _, rfl⟩, ?_, ?_⟩
 ·have := h.born
  rw [List.Nodup, fW]
  exact this.imp (fun {a b} h => by omega)
 ·rw [d]
  rw [List.Nodup, fW]
  exact y.imp (fun {a b} m e => m (by injection e))
 ·obtain ⟨s, _, i⟩ := g x j
  exact ⟨_, i⟩
 ·have h1 := (sorted_perm (es.toList.map (Go.WideElems.rg (H := Unit) P kt (fun _ => some (.lit (.bool true), []))))).map (fun p => strOf p.1)
  refine List.Perm.trans h1 ?_
  have e : (es.toList.map (Go.WideElems.rg (H := Unit) P kt (fun _ => some (.lit (.bool true), [])))).map (fun p => strOf p.1) = l.map (fun p => p.1.data.toList) := by
   have q : (es.toList.map (Go.WideElems.rg (H := Unit) P kt (fun _ => some (.lit (.bool true), [])))).map (fun p => strOf p.1) = (es.toList.map (·.key)).map (fun v => match v with | .string s => s.data.toList | _ => []) := by
    rw [fg, fg]
    refine List.map_congr_left fun x j => ?_
    obtain ⟨s, i, k⟩ := g x j
    simp [Go.WideElems.rg, k, i, strOf]
   rw [q, d, fg, fg]
   rfl
  rw [e]
 ·have h1 := (sorted_perm (es.toList.map (Go.WideElems.rg (H := Unit) P kt (fun _ => some (.lit (.bool true), []))))).length_eq
  show (List.foldr DataW.insert [] _).length = _
  rw [h1, dA, ← h.length]
  simp
theorem HU {l : List ByteArray} {g : List (List UInt8)} (h : g.Perm (l.map fun b => b.data.toList)) : g.mergeSort (fun x y => decide (x ≤ y)) = (uP l).map (fun b => b.data.toList) := by
 rw [N4]
 have le : ∀ a b c : List UInt8, decide (a ≤ b) = true → decide (b ≤ c) = true → decide (a ≤ c) = true := fun a b c h1 d => by
  simp only [bO] at *
  exact List.le_trans h1 d
 have tot : ∀ a b : List UInt8, (decide (a ≤ b) || decide (b ≤ a)) = true := fun a b => by
  simp only [fQ, bO]
  exact List.le_total a b
 refine List.Perm.eq_of_pairwise (le := fun a b => decide (a ≤ b) = true) (fun a b _ _ h1 d => List.le_antisymm (by simpa using h1) (by simpa using d)) (gB le tot _) (gB le tot _) ?_
 exact (ir _ _).trans (h.trans (ir _ _).symm)
section
variable {P : Program} {ρk ρt ρm : Ren}
theorem JF (LK : SlLaysZ.n7 P ρk) (LT : SlLaysZ.n6 P ρt) (LM : SlLaysM.n6 P ρm) (h9 : ρt.f 9 = ρm.f 6) (hK : P.underlying (ρk.t 26) = some .string) (eg : ∀ args w, (callFunc (ρk.f 10) args).run P w = .ok (.enter (ρk.f 10) args) w) (es : ∀ args w, (callFunc (ρt.f 9) args).run P w = .ok (.enter (ρt.f 9) args) w) {β : Type} {vf : β → Value} {l : List (ByteArray × β)} {b : Nat} {mv : Value} {t : TypeId} {W : World} {r : List ByteArray} (z : W.heap[b]? = some (.cells #[mv] t (0, 0))) (hm : vZ Value.string vf (hp W) mv l) (hk : Gb l = some r) :
  lz false P (ρt.f 6) [.func (.func (ρk.f 10)) #[] #[.pointer (some ⟨b, 0, none⟩)]] W (ρt.t 26) sU 1 r := by
 unfold Gb at hk
 split at hk
 case isFalse => cases hk
 rename_i hc
 obtain ⟨R, T, U⟩ := hc
 cases hk
 have j : b < W.heap.size := (dQ.1 z).1
 have d : W.cell? ⟨b, 0, none⟩ = some mv := by simp [World.cell?, z]
 have s : AnyZ.SortsIn P ρt Fence.wide 4 :=
  ⟨fun L off cap i W hH hblk u => callsIn_wide.2 (by rw [h9]; exact AnyM.slices_Sort_string LM L off cap i W hH hblk u), fun p cap W => callsIn_wide.2 (by rw [h9]; exact AnyM.slices_Sort_string_none LM p cap W)⟩
 have G : SeqGives Fence.wide 2 P (ρk.f 10) #[.pointer (some ⟨b, 0, none⟩)] encStr (fun i => i.Perm ((l.map (·.1)).map fun b => b.data.toList)) l.length W := by
  rcases hm with ⟨rfl, rfl⟩ | ⟨m, es, clock, rfl, a1, A⟩
  ·have := AnyZ.keys_gives_nil (ρ := ρk) { LK with } Fence.wide 2 trivial rfl b W j d
   intro l' J W' O M Q I
   refine CallsIn.mono (this l' J W' O M Q I) ?_
   rintro e w' ⟨hv, i, rfl, hj⟩
   exact ⟨hv, [], bB _, hj⟩
  ·obtain ⟨D, E, q, u⟩ := JL hK A R T (by unfold maxLen; omega) a1
   have := AnyZ.keys_gives (ρ := ρk) { LK with } Fence.wide 2 trivial rfl (by omega) b m es.size D W j d E
   intro l' J W' O M Q I
   refine CallsIn.mono (this l' J W' O M (by rw [u]; exact Q) I) ?_
   rintro e w' ⟨hv, i, hp, hj⟩
   refine ⟨hv, i, ?_, hj⟩
   rw [fg]
   exact hp.trans q
 have cS := AnyZ.sorted_in LT Fence.wide 5 trivial trivial trivial trivial rfl (by omega) s es (ρk.f 10) #[.pointer (some ⟨b, 0, none⟩)] trivial eg _ l.length (by unfold maxLen; omega) U W G
 refine dV (callsIn_wide.1 cS) ?_
 rintro e w' ⟨v, i, rfl, hS, F, a7, a⟩
 have hs := HU hS
 have hlen : i.length = (uP (l.map (·.1))).length := by
  have := bN List.length hs
  simpa using this
 have n : (i.mergeSort (fun x y => decide (x ≤ y))).map encStr = ((uP (l.map (·.1))).map sU).flatten := by
  rw [hs, Qe, fg]
  refine List.map_congr_left (fun x _ => ?_)
  simp only [Function.comp, encStr]
 rcases F.2 with ⟨rfl, I⟩ | ⟨g, cap, cur, rfl, k, hg, a8, Y, Z, a6⟩
 ·have : uP (l.map (·.1)) = [] := aU (by omega)
  rw [this]
  exact ⟨_, [], rfl, tT.Ie ⟨a.os, a.tape, a.output, fun h => (by cases h), a.size, fun b z => a.block b z⟩ (fun _ _ h => by cases h) (by simp), jT.nil _ _ _⟩
 ·refine ⟨_, [(g, .cells cur (ρt.t 26) (0, 0))], rfl, tT.Ie ⟨a.os, a.tape, a.output, fun h => (by cases h), a.size, fun b z => a.block b z⟩ (fun b o h => by simp at h; obtain ⟨rfl, rfl⟩ := h; exact ⟨hg, k⟩) (by simp), .inr ⟨g, cap, cur, by rw [hlen], rfl, by omega, Y, Z, ?_⟩⟩
  rw [← hlen, a6, n]
end
end Go.Proofs.YtmlncblocfcmiaaGreat
namespace Go.Proofs.YtmlncblocfcmiaaGreat
def gj := @Tryz.underlying9
def gw := @Tryz.zeroValue9
def gU := @Tryz.underlying0
def ig := @Tryz.zeroValue0
def iw := @Tryz.sizeOf9
def iI := @Tryz.isAgg9
def iJ := @Tryz.underlying82
def iU := @Tryz.underlying4
def iV := @Tryz.zeroValue82
def iZ := @Tryz.sizeOf0
def je := @Tryz.zeroValue4
def jh := @Tryz.isAgg0
def Mr : Go.Shelf.Ren := ⟨fun | 6 => 230 | 15 => 322 | 14 => 321 | 28 => 367 | 29 => 368 | 20 => 359 | 21 => 360 | 22 => 361 | 23 => 362 | 24 => 363 | 25 => 364 | 26 => 365 | 27 => 366 | 46 => 410 | 47 => 411 | 48 => 412 | 49 => 413 | 50 => 414 | 57 => 449 | n => n, fun | 22 => 22 | 24 => 53 | 25 => 194 | 3 => 3 | 39 => 353 | 0 => 0 | 53 => 389 | 55 => 309 | 4 => 4 | 46 => 383 | 45 => 382 | 50 => 39 | 5 => 5 | 9 => 9 | 66 => 419 | 70 => 423 | 76 => 446 | 77 => 274 | n => n, fun | n => n⟩
theorem Qh : Go.Proofs.SlLaysF0.n6 Tryz.prog Mr := {
 mixed := by kernel_rfl,
 f6 := ⟨Tryz.f230.name, by decide, Tryz.func230.trans (bN some (by kernel_rfl))⟩,
 f14 := ⟨Tryz.f321.name, by decide, Tryz.func321.trans (bN some (by kernel_rfl))⟩,
 f15 := Tryz.func322.trans (bN some (by kernel_rfl)),
 f20 := ⟨Tryz.f359.name, by decide, Tryz.func359.trans (bN some (by kernel_rfl))⟩,
 f21 := ⟨Tryz.f360.name, by decide, Tryz.func360.trans (bN some (by kernel_rfl))⟩,
 f22 := ⟨Tryz.f361.name, by decide, Tryz.func361.trans (bN some (by kernel_rfl))⟩,
 f23 := ⟨Tryz.f362.name, by decide, Tryz.func362.trans (bN some (by kernel_rfl))⟩,
 f24 := ⟨Tryz.f363.name, by decide, Tryz.func363.trans (bN some (by kernel_rfl))⟩,
 f25 := ⟨Tryz.f364.name, by decide, Tryz.func364.trans (bN some (by kernel_rfl))⟩,
 f26 := ⟨Tryz.f365.name, by decide, Tryz.func365.trans (bN some (by kernel_rfl))⟩,
 f27 := ⟨Tryz.f366.name, by decide, Tryz.func366.trans (bN some (by kernel_rfl))⟩,
 f28 := Tryz.func367.trans (bN some (by kernel_rfl)),
 f29 := Tryz.func368.trans (bN some (by kernel_rfl)),
 f46 := ⟨Tryz.f410.name, by decide, Tryz.func410.trans (bN some (by kernel_rfl))⟩,
 f47 := Tryz.func411.trans (bN some (by kernel_rfl)),
 f48 := Tryz.func412.trans (bN some (by kernel_rfl)),
 f49 := ⟨Tryz.f413.name, by decide, Tryz.func413.trans (bN some (by kernel_rfl))⟩,
 f50 := ⟨Tryz.f414.name, by decide, Tryz.func414.trans (bN some (by kernel_rfl))⟩,
 f57 := ⟨Tryz.f449.name, by decide, Tryz.func449.trans (bN some (by kernel_rfl))⟩,
 t0 := gU,
 a0 := jh,
 z0 := iZ,
 v0 := ig,
 t3 := Tryz.underlying3,
 a3 := Tryz.isAgg3,
 z3 := Tryz.sizeOf3,
 v3 := Tryz.zeroValue3,
 t4 := iU,
 a4 := Tryz.isAgg4,
 z4 := Tryz.sizeOf4,
 v4 := je,
 t5 := Tryz.underlying5,
 a5 := Tryz.isAgg5,
 z5 := Tryz.sizeOf5,
 v5 := Tryz.zeroValue5,
 t9 := gj,
 a9 := iI,
 z9 := iw,
 v9 := gw,
 t22 := Tryz.underlying22,
 a22 := Tryz.isAgg22,
 z22 := Tryz.sizeOf22,
 v22 := Tryz.zeroValue22,
 t25 := Tryz.underlying194,
 a25 := Tryz.isAgg194,
 z25 := Tryz.sizeOf194,
 v25 := Tryz.zeroValue194,
 t39 := Tryz.underlying353,
 a39 := Tryz.isAgg353,
 z39 := Tryz.sizeOf353,
 v39 := Tryz.zeroValue353,
 t45 := Tryz.underlying382,
 a45 := Tryz.isAgg382,
 z45 := Tryz.sizeOf382,
 v45 := Tryz.zeroValue382,
 t46 := Tryz.underlying383,
 a46 := Tryz.isAgg383,
 z46 := Tryz.sizeOf383,
 v46 := Tryz.zeroValue383,
 t50 := Tryz.underlying39,
 a50 := Tryz.isAgg39,
 z50 := Tryz.sizeOf39,
 v50 := Tryz.zeroValue39,
 t53 := Tryz.underlying389,
 a53 := Tryz.isAgg389,
 z53 := Tryz.sizeOf389,
 v53 := Tryz.zeroValue389,
 t55 := Tryz.underlying309,
 a55 := Tryz.isAgg309,
 z55 := Tryz.sizeOf309,
 v55 := Tryz.zeroValue309,
 t66 := Tryz.underlying419,
 a66 := Tryz.isAgg419,
 z66 := Tryz.sizeOf419,
 v66 := Tryz.zeroValue419,
 t70 := Tryz.underlying423,
 a70 := Tryz.isAgg423,
 z70 := Tryz.sizeOf423,
 v70 := Tryz.zeroValue423,
 t76 := Tryz.underlying446,
 a76 := Tryz.isAgg446,
 z76 := Tryz.sizeOf446,
 v76 := Tryz.zeroValue446,
 t77 := Tryz.underlying274,
 a77 := Tryz.isAgg274,
 z77 := Tryz.sizeOf274,
 v77 := Tryz.zeroValue274}
def PU : Go.Shelf.Ren := ⟨fun | 6 => 273 | 8 => 322 | 9 => 343 | 19 => 367 | 20 => 368 | 21 => 396 | 22 => 397 | 23 => 398 | 24 => 399 | 25 => 400 | 26 => 401 | 27 => 402 | 28 => 403 | 29 => 404 | 36 => 426 | 31 => 411 | 32 => 412 | 37 => 427 | 38 => 428 | 39 => 429 | 41 => 454 | n => n, fun | 27 => 82 | 29 => 9 | 3 => 3 | 32 => 353 | 26 => 82 | 0 => 0 | 44 => 389 | 46 => 309 | 4 => 4 | 36 => 383 | 35 => 382 | 41 => 39 | 5 => 5 | 9 => 9 | 53 => 419 | 57 => 423 | 63 => 446 | 64 => 274 | n => n, fun | n => n⟩
theorem P9 : Go.Proofs.SlLaysM.n6 Tryz.prog PU := {
 mixed := by kernel_rfl,
 f6 := ⟨Tryz.f273.name, by decide, Tryz.func273.trans (bN some (by kernel_rfl))⟩,
 f8 := Tryz.func322.trans (bN some (by kernel_rfl)),
 f9 := ⟨Tryz.f343.name, by decide, Tryz.func343.trans (bN some (by kernel_rfl))⟩,
 f19 := Tryz.func367.trans (bN some (by kernel_rfl)),
 f20 := Tryz.func368.trans (bN some (by kernel_rfl)),
 f21 := ⟨Tryz.f396.name, by decide, Tryz.func396.trans (bN some (by kernel_rfl))⟩,
 f22 := ⟨Tryz.f397.name, by decide, Tryz.func397.trans (bN some (by kernel_rfl))⟩,
 f23 := ⟨Tryz.f398.name, by decide, Tryz.func398.trans (bN some (by kernel_rfl))⟩,
 f24 := ⟨Tryz.f399.name, by decide, Tryz.func399.trans (bN some (by kernel_rfl))⟩,
 f25 := ⟨Tryz.f400.name, by decide, Tryz.func400.trans (bN some (by kernel_rfl))⟩,
 f26 := ⟨Tryz.f401.name, by decide, Tryz.func401.trans (bN some (by kernel_rfl))⟩,
 f27 := ⟨Tryz.f402.name, by decide, Tryz.func402.trans (bN some (by kernel_rfl))⟩,
 f28 := ⟨Tryz.f403.name, by decide, Tryz.func403.trans (bN some (by kernel_rfl))⟩,
 f29 := ⟨Tryz.f404.name, by decide, Tryz.func404.trans (bN some (by kernel_rfl))⟩,
 f31 := Tryz.func411.trans (bN some (by kernel_rfl)),
 f32 := Tryz.func412.trans (bN some (by kernel_rfl)),
 f36 := ⟨Tryz.f426.name, by decide, Tryz.func426.trans (bN some (by kernel_rfl))⟩,
 f37 := ⟨Tryz.f427.name, by decide, Tryz.func427.trans (bN some (by kernel_rfl))⟩,
 f38 := ⟨Tryz.f428.name, by decide, Tryz.func428.trans (bN some (by kernel_rfl))⟩,
 f39 := ⟨Tryz.f429.name, by decide, Tryz.func429.trans (bN some (by kernel_rfl))⟩,
 f41 := ⟨Tryz.f454.name, by decide, Tryz.func454.trans (bN some (by kernel_rfl))⟩,
 t0 := gU,
 a0 := jh,
 z0 := iZ,
 v0 := ig,
 t3 := Tryz.underlying3,
 a3 := Tryz.isAgg3,
 z3 := Tryz.sizeOf3,
 v3 := Tryz.zeroValue3,
 t4 := iU,
 a4 := Tryz.isAgg4,
 z4 := Tryz.sizeOf4,
 v4 := je,
 t5 := Tryz.underlying5,
 a5 := Tryz.isAgg5,
 z5 := Tryz.sizeOf5,
 v5 := Tryz.zeroValue5,
 t9 := gj,
 a9 := iI,
 z9 := iw,
 v9 := gw,
 t26 := iJ,
 a26 := Tryz.isAgg82,
 z26 := Tryz.sizeOf82,
 v26 := iV,
 t27 := iJ,
 a27 := Tryz.isAgg82,
 z27 := Tryz.sizeOf82,
 v27 := iV,
 t29 := gj,
 a29 := iI,
 z29 := iw,
 v29 := gw,
 t32 := Tryz.underlying353,
 a32 := Tryz.isAgg353,
 z32 := Tryz.sizeOf353,
 v32 := Tryz.zeroValue353,
 t35 := Tryz.underlying382,
 a35 := Tryz.isAgg382,
 z35 := Tryz.sizeOf382,
 v35 := Tryz.zeroValue382,
 t36 := Tryz.underlying383,
 a36 := Tryz.isAgg383,
 z36 := Tryz.sizeOf383,
 v36 := Tryz.zeroValue383,
 t41 := Tryz.underlying39,
 a41 := Tryz.isAgg39,
 z41 := Tryz.sizeOf39,
 v41 := Tryz.zeroValue39,
 t44 := Tryz.underlying389,
 a44 := Tryz.isAgg389,
 z44 := Tryz.sizeOf389,
 v44 := Tryz.zeroValue389,
 t46 := Tryz.underlying309,
 a46 := Tryz.isAgg309,
 z46 := Tryz.sizeOf309,
 v46 := Tryz.zeroValue309,
 t53 := Tryz.underlying419,
 a53 := Tryz.isAgg419,
 z53 := Tryz.sizeOf419,
 v53 := Tryz.zeroValue419,
 t57 := Tryz.underlying423,
 a57 := Tryz.isAgg423,
 z57 := Tryz.sizeOf423,
 v57 := Tryz.zeroValue423,
 t63 := Tryz.underlying446,
 a63 := Tryz.isAgg446,
 z63 := Tryz.sizeOf446,
 v63 := Tryz.zeroValue446,
 t64 := Tryz.underlying274,
 a64 := Tryz.isAgg274,
 z64 := Tryz.sizeOf274,
 v64 := Tryz.zeroValue274}
def OU : Go.Shelf.Ren := ⟨fun | 7 => 234 | 10 => 327 | n => n, fun | 23 => 296 | 26 => 9 | 3 => 4 | 28 => 223 | 0 => 0 | 27 => 222 | 33 => 214 | 4 => 4 | n => n, fun | n => n⟩
theorem OJ : Go.Proofs.SlLaysZ.n7 Tryz.prog OU := {
 mixed := by kernel_rfl,
 f7 := ⟨Tryz.f234.name, by decide, Tryz.func234.trans (bN some (by kernel_rfl))⟩,
 f10 := ⟨Tryz.f327.name, by decide, Tryz.func327.trans (bN some (by kernel_rfl))⟩,
 t0 := gU,
 a0 := jh,
 z0 := iZ,
 v0 := ig,
 t4 := iU,
 a4 := Tryz.isAgg4,
 z4 := Tryz.sizeOf4,
 v4 := je,
 t23 := Tryz.underlying296,
 a23 := Tryz.isAgg296,
 z23 := Tryz.sizeOf296,
 v23 := Tryz.zeroValue296,
 t26 := gj,
 a26 := iI,
 z26 := iw,
 v26 := gw,
 t27 := Tryz.underlying222,
 a27 := Tryz.isAgg222,
 z27 := Tryz.sizeOf222,
 v27 := Tryz.zeroValue222,
 t28 := Tryz.underlying223,
 a28 := Tryz.isAgg223,
 z28 := Tryz.sizeOf223,
 v28 := Tryz.zeroValue223,
 t33 := Tryz.underlying214,
 a33 := Tryz.isAgg214,
 z33 := Tryz.sizeOf214,
 v33 := Tryz.zeroValue214}
def Ox : Go.Shelf.Ren := ⟨fun | 6 => 159 | 8 => 272 | 9 => 273 | 11 => 342 | 13 => 322 | 12 => 343 | 23 => 367 | 24 => 368 | 14 => 396 | 15 => 397 | 16 => 398 | 17 => 399 | 18 => 400 | 19 => 401 | 20 => 402 | 21 => 403 | 22 => 404 | 25 => 426 | 26 => 411 | 27 => 412 | 28 => 427 | 29 => 428 | 30 => 429 | 31 => 454 | n => n, fun | 26 => 9 | 28 => 223 | 24 => 82 | 0 => 0 | 3 => 3 | 37 => 353 | 48 => 389 | 50 => 309 | 4 => 4 | 40 => 383 | 39 => 382 | 45 => 39 | 5 => 5 | 9 => 9 | 51 => 419 | 55 => 423 | 57 => 446 | 58 => 274 | 33 => 214 | n => n, fun | n => n⟩
theorem OY : Go.Proofs.SlLaysZ.n6 Tryz.prog Ox := {
 mixed := by kernel_rfl,
 f6 := ⟨Tryz.f159.name, by decide, Tryz.func159.trans (bN some (by kernel_rfl))⟩,
 f8 := ⟨Tryz.f272.name, by decide, Tryz.func272.trans (bN some (by kernel_rfl))⟩,
 f11 := ⟨Tryz.f342.name, by decide, Tryz.func342.trans (bN some (by kernel_rfl))⟩,
 t0 := gU,
 a0 := jh,
 z0 := iZ,
 v0 := ig,
 t24 := iJ,
 a24 := Tryz.isAgg82,
 z24 := Tryz.sizeOf82,
 v24 := iV,
 t26 := gj,
 a26 := iI,
 z26 := iw,
 v26 := gw,
 t28 := Tryz.underlying223,
 a28 := Tryz.isAgg223,
 z28 := Tryz.sizeOf223,
 v28 := Tryz.zeroValue223,
 i26 := by kernel_rfl}
end Go.Proofs.YtmlncblocfcmiaaGreat
namespace Go.Proofs.YtmlncblocfcmiaaGreat
open Go.RowKit
set_option maxRecDepth 10000
noncomputable section
structure jq where
 js : ByteArray
 jy : ByteArray
def jA (x : jq) : List Value := [.string x.js, .string x.jy]
def jP (x y : jq) : Bool := (kQ x.js y.js) && ((kQ x.jy y.jy) && true)
theorem jQ {x y : jq} : jP x y = true ↔ x = y := by
 cases x; cases y; simp [jP, lZ]
theorem xX (x : jq) : (jA x).length = 2 := rfl
theorem vJ (x : jq) : ∀ u ∈ jA x, u.oneCell' = true := by
 intro u hu
 simp only [jA, aR, dR, gd] at hu
 rcases hu with rfl | rfl <;> rfl
structure jr where
 Kind : Int
 Head : jq
 ky : ByteArray
 B : jq
 C : jq
 kF : ByteArray
def jv (x : jr) : List Value := [.int .i64 x.Kind, .string x.Head.js, .string x.Head.jy, .string x.ky, .string x.B.js, .string x.B.jy, .string x.C.js, .string x.C.jy, .string x.kF]
def kh (x y : jr) : Bool := (x.Kind == y.Kind) && ((jP x.Head y.Head) && ((kQ x.ky y.ky) && ((jP x.B y.B) && ((jP x.C y.C) && ((kQ x.kF y.kF) && true)))))
theorem mz {x y : jr} : kh x y = true ↔ x = y := by
 cases x; cases y; simp [kh, lZ, jQ]
theorem jV (x : jr) : (jv x).length = 9 := rfl
theorem mT (x : jr) : ∀ u ∈ jv x, u.oneCell' = true := by
 intro u hu
 simp only [jv, aR, dR, gd] at hu
 rcases hu with rfl | rfl | rfl | rfl | rfl | rfl | rfl | rfl | rfl <;> rfl
structure jJ where
 jq : jq
 ky : ByteArray
def kp (x : jJ) : List Value := [.string x.jq.js, .string x.jq.jy, .string x.ky]
def Ao (x y : jJ) : Bool := (jP x.jq y.jq) && ((kQ x.ky y.ky) && true)
theorem zj {x y : jJ} : Ao x y = true ↔ x = y := by
 cases x; cases y; simp [Ao, lZ, jQ]
theorem qN (x : jJ) : (kp x).length = 3 := rfl
theorem yV (x : jJ) : ∀ u ∈ kp x, u.oneCell' = true := by
 intro u hu
 simp only [kp, aR, dR, gd] at hu
 rcases hu with rfl | rfl | rfl <;> rfl
structure ye where
 uU : Int
 uV : Int
def FT (x : ye) : List Value := [.int .i64 x.uU, .int .i64 x.uV]
structure kC where
 e : Int
def lD (x : kC) : List Value := [.int .i64 x.e]
structure kM where
 Nt : Bool
def mj (x : kM) : List Value := [.bool x.Nt]
structure Key where
 ky : ByteArray
 Key : List Int
structure Signed where
 jr : jr
 Tag : List Int
structure Formula where
 Op : Int
 K : Int
 jq : jq
 Kids : List Formula
structure kz where
 Signed : Signed
 jx : Formula
structure oe where
 jq : jq
 jx : Formula
 ms : List jr
structure kI where
 Name : ByteArray
 jH : List kz
 ke : List oe
structure nf where
 js : kI
 Client : kI
 Formula : Formula
 sI : Int
 mG : ye
 nD : Int
 pP : Int
 ow : Int
 Keys : List Key
def ot (a0 : ByteArray) (a : Int) : Option Int :=
 some (wJ a0 a)
def ra (a0 : ByteArray) (a : Int) : Option Int :=
 ((ot a0 a).bind fun b => some b)
def uM  : List Int → Option Bool
 | [] => some true
 | d :: a => ((ra (⟨#[97, 98, 99, 100, 101, 102, 103, 104, 105, 106, 107, 108, 109, 110, 111, 112, 113, 114, 115, 116, 117, 118, 119, 120, 121, 122, 48, 49, 50, 51, 52, 53, 54, 55, 56, 57, 45]⟩ : ByteArray) d).bind fun b => (if (decide (b < 0)) then some false else (uM a)))
def BM (a0 : ByteArray) : Option Bool :=
 ((B7 a0).bind fun a => uM a)
def rM (a0 : ByteArray) : Option Bool :=
 (((if (decide ((a0.size : Int) ≥ 1)) then some (decide ((a0.size : Int) ≤ 16)) else some false) : Option Bool).bind fun x2 => (((if x2 then ((zN a0 0).bind fun a => ((ra (⟨#[97, 98, 99, 100, 101, 102, 103, 104, 105, 106, 107, 108, 109, 110, 111, 112, 113, 114, 115, 116, 117, 118, 119, 120, 121, 122]⟩ : ByteArray) (a.toNat : Int)).bind fun d => some (decide (d ≥ 0)))) else some false) : Option Bool).bind fun g => (((if g then ((BM a0).bind fun b => some b) else some false) : Option Bool).bind fun h => some h)))
def tY (a0 : List Int) : Option (List Int) :=
 ((mu 1 ([]) a0).bind fun a => some a)
def pG (a0 : jq) : Option Bool :=
 ((rM a0.js).bind fun d => (((if d then ((rM a0.jy).bind fun a => some a) else some false) : Option Bool).bind fun b => some b))
def nt (a0 a : ByteArray) : Option Int :=
 some (oX a0 a)
def pn (a0 a : ByteArray) : Option Int :=
 ((nt a0 a).bind fun b => some b)
def sk  : List Int → Option Int
 | [] => some 0
 | a :: b => (if (a != 0) then some a else (sk b))
def uN (a0 : List Int) : Option Int :=
 sk a0
def rl (a0 g : jq) : Option Int :=
 ((pn a0.js g.js).bind fun a => ((pn a0.jy g.jy).bind fun b => ((uN ([a, b])).bind fun d => some d)))
def tM (a0 : jr) : Option Bool :=
 ((pG a0.Head).bind fun y => (((if (a0.Kind == 1) then (((if y then ((rM a0.ky).bind fun b => some b) else some false) : Option Bool).bind fun p => some (Sum.inr (p, (⟨a0.Kind, a0.Head, a0.ky, (⟨zS, zS⟩ : jq), (⟨zS, zS⟩ : jq), zS⟩ : jr)))) else (if (a0.Kind == 2) then (((if y then ((pG a0.B).bind fun d => some d) else some false) : Option Bool).bind fun q => some (Sum.inr (q, (⟨a0.Kind, a0.Head, zS, a0.B, (⟨zS, zS⟩ : jq), zS⟩ : jr)))) else (if (a0.Kind == 3) then (((if y then ((pG a0.B).bind fun h => some h) else some false) : Option Bool).bind fun r => (((if r then some (kQ a0.B.js a0.Head.js) else some false) : Option Bool).bind fun t => (((if t then ((rM a0.kF).bind fun g => some g) else some false) : Option Bool).bind fun u => some (Sum.inr (u, (⟨a0.Kind, a0.Head, zS, a0.B, (⟨zS, zS⟩ : jq), a0.kF⟩ : jr)))))) else (if (a0.Kind == 4) then (((if y then ((pG a0.B).bind fun k => some k) else some false) : Option Bool).bind fun v => (((if v then ((pG a0.C).bind fun j => some j) else some false) : Option Bool).bind fun w => (((if w then ((rl a0.B a0.C).bind fun i => some (decide (i < 0))) else some false) : Option Bool).bind fun x => some (Sum.inr (x, (⟨a0.Kind, a0.Head, zS, a0.B, a0.C, zS⟩ : jr)))))) else some (Sum.inl false))))) : Option (Bool ⊕ (Bool × jr))).bind fun s => match s with | .inl a => some a | .inr (l, m) => (((if l then some (kh m a0) else some false) : Option Bool).bind fun n => some n)))
def pN  : Nat → Int → (List Int) → Option (Bool × (List Int))
 | 0, _, _ => none
 | h + 1, a, d => (if (decide (a ≥ 128)) then ((mu 1 d ([(IntKind.u8.wrap (BitVec.ofInt (IntKind.bits .u8) (IntKind.u8.wrap a) ||| BitVec.ofInt (IntKind.bits .u8) 128).toNat)])).bind fun g => (pN h (Int.fdiv a (2 ^ min (Int.toNat 7) (IntKind.bits .i64))) g)) else ((mu 1 d ([(IntKind.u8.wrap a)])).bind fun b => some (true, b)))
def nR (a : List Int) (b : Int) : Option (Bool × (List Int)) :=
 (if (decide (b < 0)) then some (false, a) else pN jY b a)
def xg (a b : List Int) : Option (Bool × (List Int)) :=
 (if (decide ((b.length : Int) > 2048)) then some (false, a) else ((nR a (b.length : Int)).bind fun g => ((mu 1 g.2 b).bind fun d => some (true, d))))
def tK (a : List Int) (i : ByteArray) : Option (Bool × (List Int)) :=
 ((rM i).bind fun j => (((if j then ((B7 i).bind fun g => ((xg a g).bind fun b => some (b.1, b.2))) else some (false, a)) : Option (Bool × (List Int))).bind fun (h, d) => some (h, d)))
def pB (a : List Int) (h : jq) : Option (Bool × (List Int)) :=
 ((pG h).bind fun l => (((if l then ((tK a h.js).bind fun g => some (g.1, g.2)) else some (false, a)) : Option (Bool × (List Int))).bind fun (j, b) => (((if j then ((tK b h.jy).bind fun d => some (d.1, d.2)) else some (false, b)) : Option (Bool × (List Int))).bind fun (k, i) => some (k, i))))
def tw (a : List Int) : Option (List Int) :=
 ((tY a).bind fun b => some b)
def wG (a0 : jr) : Option (List Int) :=
 ((tM a0).bind fun m => (if (!m) then some [] else ((nR ([]) a0.Kind).bind fun n => ((pB n.2 a0.Head).bind fun a => (((if (a0.Kind == 1) then ((tK a.2 a0.ky).bind fun g => some g.2) else (if (a0.Kind == 2) then ((pB a.2 a0.B).bind fun h => some h.2) else (if (a0.Kind == 3) then ((pB a.2 a0.B).bind fun i => ((tK i.2 a0.kF).bind fun j => some j.2)) else (if (a0.Kind == 4) then ((pB a.2 a0.B).bind fun k => ((pB k.2 a0.C).bind fun l => some l.2)) else some a.2)))) : Option (List Int)).bind fun b => ((tw b).bind fun d => some d))))))
def oI (a0 : List jr) : Option (List jr) :=
 ((mu 136 ([]) a0).bind fun a => some a)
def oA (f1 : jr → Option Bool) : List jr → Nat → Option Int
 | [], _ => some (-1)
 | d :: a, i35 => ((f1 d).bind fun b => (if b then some (i35 : Int) else (oA f1 a (i35 + 1))))
def tU (a0 : List jr) (f1 : jr → Option Bool) : Option Int :=
 oA f1 a0 0
def nw (f1 : jr → Option Bool) : Nat → (List jr) → Int → Int → Option (List jr)
 | 0, _, _, _ => none
 | n321 + 1, b, a, d => (if (decide (d < (b.length : Int))) then ((((lE b d).bind fun g => ((f1 g).bind fun i => (if (!i) then ((lE b a).bind fun k => some ((b.set (Int.toNat a) g), (IntKind.i64.wrap (a + 1)))) else some (b, a)))) : Option ((List jr) × Int)).bind fun (h, j) => (nw f1 n321 h j (IntKind.i64.wrap (d + 1)))) else ((rV (decide (0 ≤ a) && decide (a ≤ (b.length : Int)))).bind fun _ => ((rV (decide (0 ≤ a) && decide (a ≤ ((oz b (Int.toNat a) (⟨0, (⟨zS, zS⟩ : jq), zS, (⟨zS, zS⟩ : jq), (⟨zS, zS⟩ : jq), zS⟩ : jr)).length : Int)))).bind fun _ => some ((oz b (Int.toNat a) (⟨0, (⟨zS, zS⟩ : jq), zS, (⟨zS, zS⟩ : jq), (⟨zS, zS⟩ : jq), zS⟩ : jr)).take (Int.toNat a)))))
def nX (a0 : List jr) (f1 : jr → Option Bool) : Option (List jr) :=
 ((tU a0 f1).bind fun a => (if (a == (-1)) then some a0 else nw f1 jY a0 a (IntKind.i64.wrap (a + 1))))
def xF (a0 : jr) : Option Bool :=
 ((tM a0).bind fun a => some (!a))
def vU (a0 a : List Int) : Option Int :=
 some (xU a0 a)
def th (a0 g : jr) : Option Int :=
 ((wG a0).bind fun a => ((wG g).bind fun b => ((vU a b).bind fun d => some d)))
def nZ (b : Int) : Nat → (List jr) → Int → Int → Option ((List jr) × Int)
 | 0, _, _, _ => none
 | i + 1, a, d, g => (if (decide (g < ((a.length - (Int.toNat b) : Nat) : Int))) then ((((lE (a.drop (Int.toNat b)) g).bind fun k => ((lE (a.drop (Int.toNat b)) (IntKind.i64.wrap (g - 1))).bind fun l => (if (!(kh k l)) then ((lE (a.drop (Int.toNat b)) g).bind fun m => ((lE a d).bind fun n => some ((a.set (Int.toNat d) m), (IntKind.i64.wrap (d + 1))))) else some (a, d)))) : Option ((List jr) × Int)).bind fun (h, j) => (nZ b i h j (IntKind.i64.wrap (g + 1)))) else some (a, d))
def nW (a0 : List jr) : Nat → Int → Option (List jr)
 | 0, _ => none
 | g + 1, a => (if (decide (a < (a0.length : Int))) then ((lE a0 a).bind fun h => ((lE a0 (IntKind.i64.wrap (a - 1))).bind fun i => (if (kh h i) then ((rV (decide (0 ≤ a) && decide (a ≤ (a0.length : Int)))).bind fun _ => ((nZ a jY a0 a 1 : Option ((List jr) × Int)).bind fun (d, b) => ((rV (decide (0 ≤ b) && decide (b ≤ (d.length : Int)))).bind fun _ => ((rV (decide (0 ≤ b) && decide (b ≤ ((oz d (Int.toNat b) (⟨0, (⟨zS, zS⟩ : jq), zS, (⟨zS, zS⟩ : jq), (⟨zS, zS⟩ : jq), zS⟩ : jr)).length : Int)))).bind fun _ => some ((oz d (Int.toNat b) (⟨0, (⟨zS, zS⟩ : jq), zS, (⟨zS, zS⟩ : jq), (⟨zS, zS⟩ : jq), zS⟩ : jr)).take (Int.toNat b)))))) else (nW a0 g (IntKind.i64.wrap (a + 1)))))) else some a0)
def rZ (a0 : List jr) : Option (List jr) :=
 (if (decide ((a0.length : Int) < 2)) then some a0 else nW a0 jY 1)
def uh (a0 : List jr) : Option (List jr) :=
 ((oI a0).bind fun g => ((nX g (fun (x : jr) => xF x)).bind fun a => ((zp (fun (x : (jr × jr)) => th x.1 x.2) a).bind fun b => ((rZ b).bind fun d => some d))))
def pO (d : jr) : List jr → Nat → Option Int
 | [], _ => some (-1)
 | b :: a, i46 => (if (kh d b) then some (i46 : Int) else (pO d a (i46 + 1)))
def vP (a0 : List jr) (a : jr) : Option Int :=
 pO a a0 0
def rI (a0 : List jr) (a : jr) : Option Bool :=
 ((vP a0 a).bind fun b => some (decide (b ≥ 0)))
def qK (a0 : List jr) (a : jr) : Option Bool :=
 ((rI a0 a).bind fun b => some b)
def yv (a0 : jr) : Option (List jq) :=
 ((tM a0).bind fun h => (if (!h) then some [] else (((if (a0.Kind != 1) then ((mu 32 ([a0.Head]) ([a0.B])).bind fun g => some g) else some ([a0.Head])) : Option (List jq)).bind fun a => (((if (a0.Kind == 4) then ((mu 32 a ([a0.C])).bind fun d => some d) else some a) : Option (List jq)).bind fun b => some b))))
def og (i : jr) (a : List (ByteArray × (List jr))) (g : List jr) : List jq → (List (jq × (List jr))) → Option ((List jr) × (List (jq × (List jr))) × (List (ByteArray × (List jr))))
 | [], b => (if (i.Kind == 3) then ((mu 136 ((kV kQ a i.kF).getD []) ([i])).bind fun k => some (g, b, (nU kQ a i.kF k))) else some (g, b, a))
 | d :: h, b => ((mu 136 ((kV jP b d).getD []) ([i])).bind fun j => (og i a g h (nU jP b d j)))
def sR (i : List (jq × (List (ByteArray × Bool)))) (a : List jr) (d : List (jq × (List jr))) (b : List (ByteArray × (List jr))) (g : List jJ) (l : Int) (j : jr) : Option ((List jr) × (List (jq × (List jr))) × (List (ByteArray × (List jr)))) :=
 ((mu 136 a ([j])).bind fun k => ((yv j).bind fun h => ((rV (decide (0 ≤ 1) && decide (1 ≤ (h.length : Int)))).bind fun _ => og j b k (h.drop (Int.toNat 1)) d)))
def nF (a : List (jq × (List (ByteArray × Bool)))) (g : List jr) (i : List (jq × (List jr))) (h : List (ByteArray × (List jr))) (b : List jJ) (d : Int) (j : jq) (a2 : ByteArray) : Option ((List (jq × (List (ByteArray × Bool)))) × (List jJ) × Int) :=
 (if (zc kQ ((kV jP a j).getD []) a2 false) then some (a, b, d) else (((if (kV jP a j).isNone then ((Fo jP a j ([])).bind fun k => some k) else some a) : Option (List (jq × (List (ByteArray × Bool))))).bind fun l => ((FF jP kQ l j a2 true).bind fun m => ((mu 48 b ([(⟨j, a2⟩ : jJ)])).bind fun n => some (m, n, (IntKind.i64.wrap (d + 1)))))))
def ov (a0 : List (ByteArray × Bool)) : Option Unit :=
 some ()
def qi (a : List (jq × (List (ByteArray × Bool)))) (b : List jr) (h : List (jq × (List jr))) (d : List (ByteArray × (List jr))) (g : List jJ) (j : Int) (k : jq) : Option (List ByteArray) :=
 ((ov ((kV jP a k).getD [])).bind fun l => ((Gb ((kV jP a k).getD [])).bind fun i => some i))
def pK (a : List jr) (d : List (jq × (List jr))) (b : List (ByteArray × (List jr))) (a2 : jq) : List ByteArray → (List (jq × (List (ByteArray × Bool)))) → (List jJ) → Int → Option ((List (jq × (List (ByteArray × Bool)))) × (List jJ) × Int)
 | [], g, h, j => some (g, h, j)
 | l :: k, g, h, j => ((nF g a d b h j a2 l).bind fun i => (pK a d b a2 k i.1 i.2.1 i.2.2))
def tO (h : List (jq × (List (ByteArray × Bool)))) (a : List jr) (g : List (jq × (List jr))) (b : List (ByteArray × (List jr))) (d : List jJ) (i : Int) (j a2 : jq) : Option ((List (jq × (List (ByteArray × Bool)))) × (List jJ) × Int) :=
 ((qi h a g b d i j).bind fun k => pK a g b a2 k h d i)
def rc (a : List (jq × (List (ByteArray × Bool)))) (d : List jr) (h : List (jq × (List jr))) (g : List (ByteArray × (List jr))) (b : List jJ) (i : Int) (j : jr) (a2 : jJ) : Option ((List (jq × (List (ByteArray × Bool)))) × (List jJ) × Int) :=
 (if (j.Kind == 2) then ((nF a d h g b i j.Head a2.ky).bind fun m => some (m.1, m.2.1, m.2.2)) else (if (j.Kind == 3) then ((tO a d h g b i (⟨a2.ky, j.kF⟩ : jq) j.Head).bind fun k => some (k.1, k.2.1, k.2.2)) else (if (j.Kind == 4) then (((if (zc kQ ((kV jP a j.B).getD []) a2.ky false) then some (zc kQ ((kV jP a j.C).getD []) a2.ky false) else some false) : Option Bool).bind fun n => (if n then ((nF a d h g b i j.Head a2.ky).bind fun l => some (l.1, l.2.1, l.2.2)) else some (a, b, i))) else some (a, b, i))))
def oV (a : List jr) (d : List (jq × (List jr))) (b : List (ByteArray × (List jr))) (m : jr) : List ByteArray → (List (jq × (List (ByteArray × Bool)))) → (List jJ) → Int → Option ((List (jq × (List (ByteArray × Bool)))) × (List jJ) × Int)
 | [], g, h, j => some (g, h, j)
 | l :: k, g, h, j => ((rc g a d b h j m (⟨m.B, l⟩ : jJ)).bind fun i => (oV a d b m k i.1 i.2.1 i.2.2))
def rX (h : List (jq × (List (ByteArray × Bool)))) (a : List jr) (g : List (jq × (List jr))) (b : List (ByteArray × (List jr))) (d : List jJ) (i : Int) (j : jr) : Option ((List (jq × (List (ByteArray × Bool)))) × (List jJ) × Int) :=
 (if (j.Kind == 1) then ((nF h a g b d i j.Head j.ky).bind fun l => some (l.1, l.2.1, l.2.2)) else ((qi h a g b d i j.B).bind fun k => oV a g b j k h d i))
def nM (i : jJ) (a : List jr) (d : List (jq × (List jr))) (b : List (ByteArray × (List jr))) : List jr → (List (jq × (List (ByteArray × Bool)))) → (List jJ) → Int → Option ((List (jq × (List (ByteArray × Bool)))) × (List jJ) × Int)
 | [], g, h, j => some (g, h, j)
 | m :: l, g, h, j => (if (zc kQ ((kV jP g m.B).getD []) i.jq.js false) then ((nF g a d b h j m.Head i.ky).bind fun k => (nM i a d b l k.1 k.2.1 k.2.2)) else (nM i a d b l g h j))
def oK (a : List jr) (d : List (jq × (List jr))) (b : List (ByteArray × (List jr))) (k : jJ) : List jr → (List (jq × (List (ByteArray × Bool)))) → (List jJ) → Int → Option ((List (jq × (List (ByteArray × Bool)))) × (List jJ) × Int)
 | [], g, h, j => some (g, h, j)
 | m :: l, g, h, j => ((rc g a d b h j m k).bind fun i => (oK a d b k l i.1 i.2.1 i.2.2))
def nk (d : List jr) (b : List (jq × (List jr))) (a : List (ByteArray × (List jr))) : Nat → (List (jq × (List (ByteArray × Bool)))) → (List jJ) → Int → Option ((List (jq × (List (ByteArray × Bool)))) × (List jJ) × Int)
 | 0, _, _, _ => none
 | p + 1, i, g, j => (if (decide ((g.length : Int) > 0)) then ((lE g 0).bind fun h => ((rV (decide (0 ≤ 1) && decide (1 ≤ (g.length : Int)))).bind fun _ => ((oK d b a h ((kV jP b h.jq).getD []) i (g.drop (Int.toNat 1)) j : Option ((List (jq × (List (ByteArray × Bool)))) × (List jJ) × Int)).bind fun (k, l, q) => ((nM h d b a ((kV kQ a h.jq.jy).getD []) k l q : Option ((List (jq × (List (ByteArray × Bool)))) × (List jJ) × Int)).bind fun (m, n, r) => (nk d b a p m n r))))) else some (i, g, j))
def uv (h : List (jq × (List (ByteArray × Bool)))) (a : List jr) (g : List (jq × (List jr))) (b : List (ByteArray × (List jr))) (d : List jJ) (i : Int) : Option ((List (jq × (List (ByteArray × Bool)))) × (List jJ) × Int) :=
 nk a g b jY h d i
def nJ (m : Int) : List jr → (List (jq × (List (ByteArray × Bool)))) → (List jr) → (List (jq × (List jr))) → (List (ByteArray × (List jr))) → (List jJ) → Int → Option (Int × (List (jq × (List (ByteArray × Bool)))) × (List jr) × (List (jq × (List jr))) × (List (ByteArray × (List jr))) × (List jJ) × Int)
 | [], d, a, g, h, i, j => ((uv d a g h i j).bind fun k => some ((IntKind.i64.wrap (k.2.2 - m)), k.1, a, g, h, k.2.1, k.2.2))
 | l :: p, d, a, g, h, i, j => ((tM l).bind fun q => (((if q then ((qK a l).bind fun r => some (!r)) else some false) : Option Bool).bind fun s => (if s then ((sR d a g h i j l).bind fun b => ((rX d b.1 b.2.1 b.2.2 i j l).bind fun n => (nJ m p n.1 b.1 b.2.1 b.2.2 n.2.1 n.2.2))) else (nJ m p d a g h i j))))
def tP (h : List (jq × (List (ByteArray × Bool)))) (a : List jr) (g : List (jq × (List jr))) (b : List (ByteArray × (List jr))) (d : List jJ) (i : Int) (j : List jr) : Option (Int × (List (jq × (List (ByteArray × Bool)))) × (List jr) × (List (jq × (List jr))) × (List (ByteArray × (List jr))) × (List jJ) × Int) :=
 nJ i j h a g b d i
def yC (a0 : List jr) : Option ((List (jq × (List (ByteArray × Bool)))) × (List jr) × (List (jq × (List jr))) × (List (ByteArray × (List jr))) × (List jJ) × Int) :=
 ((tP ([]) ([]) ([]) ([]) ([]) 0 a0).bind fun a => some (a.2.1, a.2.2.1, a.2.2.2.1, a.2.2.2.2.1, a.2.2.2.2.2.1, a.2.2.2.2.2.2))
def pJ (a0 g : jJ) : Option Int :=
 ((rl a0.jq g.jq).bind fun a => ((pn a0.ky g.ky).bind fun b => ((uN ([a, b])).bind fun d => some d)))
def vS (d : List (jq × (List (ByteArray × Bool)))) (g : List jr) (j : List (jq × (List jr))) (h : List (ByteArray × (List jr))) (i : List jJ) (l : Int) : Option (List jJ) :=
 ((ME 48 (fun (a : jq) (b : ByteArray) => (⟨a, b⟩ : jJ)) d).bind fun fs => Ea fs (fun k => ((zp (fun (x : (jJ × jJ)) => pJ x.1 x.2) k).bind fun m => some m)))
def vj (a : List (jq × (List (ByteArray × Bool)))) (b : List jr) (h : List (jq × (List jr))) (d : List (ByteArray × (List jr))) (g : List jJ) (i : Int) (j : jq) (a2 : ByteArray) : Option Bool :=
 some (zc kQ ((kV jP a j).getD []) a2 false)
def rk  : List jr → Int → Option Int
 | [], b => some b
 | a :: d, b => (rk d (IntKind.i64.wrap (b + (IntKind.i64.wrap ((IntKind.i64.wrap ((IntKind.i64.wrap ((IntKind.i64.wrap ((IntKind.i64.wrap ((IntKind.i64.wrap ((IntKind.i64.wrap ((IntKind.i64.wrap (20 + (a.Head.js.size : Int))) + (a.Head.jy.size : Int))) + (a.ky.size : Int))) + (a.B.js.size : Int))) + (a.B.jy.size : Int))) + (a.C.js.size : Int))) + (a.C.jy.size : Int))) + (a.kF.size : Int))))))
def vA (a0 : List jr) : Option Int :=
 rk a0 0
def rf  : List Signed → Int → Option Int
 | [], a => some a
 | b :: d, a => ((vA ([b.jr])).bind fun g => (rf d (IntKind.i64.wrap (a + (IntKind.i64.wrap (g + (b.Tag.length : Int)))))))
def pV (h : List Signed) : List Key → Int → Option Int
 | [], a => ((rf h a : Option Int).bind fun b => some b)
 | d :: g, a => (pV h g (IntKind.i64.wrap (a + (IntKind.i64.wrap ((IntKind.i64.wrap (10 + (d.ky.size : Int))) + (d.Key.length : Int))))))
def tV (a0 : List Key) (a : List Signed) : Option Int :=
 pV a a0 0
def pT (a0 : ByteArray) : Nat → Int → Option Bool
 | 0, _ => none
 | d + 1, b => (if (decide (b < (a0.size : Int))) then ((zN a0 b).bind fun a => (((if (decide ((a.toNat : Int) < 97)) then some true else some (decide ((a.toNat : Int) > 122))) : Option Bool).bind fun g => (((if g then (((if (decide ((a.toNat : Int) < 48)) then some true else some (decide ((a.toNat : Int) > 57))) : Option Bool).bind fun j => some j) else some false) : Option Bool).bind fun h => (((if h then some ((a.toNat : Int) != 45) else some false) : Option Bool).bind fun i => (if i then some false else (pT a0 d (IntKind.i64.wrap (b + 1)))))))) else some true)
def qR (a0 : ByteArray) : Option Bool :=
 (((if (kQ a0 zS) then some true else some (decide ((a0.size : Int) > 16))) : Option Bool).bind fun x2 => (((if x2 then some true else ((zN a0 0).bind fun b => some (decide ((b.toNat : Int) < 97)))) : Option Bool).bind fun d => (((if d then some true else ((zN a0 0).bind fun a => some (decide ((a.toNat : Int) > 122)))) : Option Bool).bind fun g => (if g then some false else pT a0 jY 0))))
def su (a0 : jq) : Option Bool :=
 ((qR a0.js).bind fun d => (((if d then ((qR a0.jy).bind fun a => some a) else some false) : Option Bool).bind fun b => some b))
def wz (a0 a : jq) : Option Bool :=
 (((if (pI a0.js a.js) then some true else (((if (kQ a0.js a.js) then some (pI a0.jy a.jy) else some false) : Option Bool).bind fun d => some d)) : Option Bool).bind fun b => some b)
def vu (a0 : jr) : Option Bool :=
 ((su a0.Head).bind fun t => (if (!t) then some false else (if (a0.Kind == 1) then ((qR a0.ky).bind fun i => (((if i then some (jP a0.B (⟨zS, zS⟩ : jq)) else some false) : Option Bool).bind fun k => (((if k then some (jP a0.C (⟨zS, zS⟩ : jq)) else some false) : Option Bool).bind fun l => (((if l then some (kQ a0.kF zS) else some false) : Option Bool).bind fun m => some m)))) else (((if (!(kQ a0.ky zS)) then some true else ((su a0.B).bind fun d => some (!d))) : Option Bool).bind fun n => (if n then some false else (if (a0.Kind == 2) then (((if (jP a0.C (⟨zS, zS⟩ : jq)) then some (kQ a0.kF zS) else some false) : Option Bool).bind fun p => some p) else (if (a0.Kind == 3) then (((if (jP a0.C (⟨zS, zS⟩ : jq)) then some (kQ a0.B.js a0.Head.js) else some false) : Option Bool).bind fun q => (((if q then ((qR a0.kF).bind fun j => some j) else some false) : Option Bool).bind fun r => some r)) else (((if (a0.Kind == 4) then some (kQ a0.kF zS) else some false) : Option Bool).bind fun s => (((if s then ((su a0.C).bind fun b => some b) else some false) : Option Bool).bind fun g => (((if g then ((wz a0.B a0.C).bind fun a => some a) else some false) : Option Bool).bind fun h => some h))))))))))
def sM  : Nat → Int → ByteArray → Option ByteArray
 | 0, _, _ => none
 | n45 + 1, a, b => (if (decide (a ≥ 128)) then ((wo b (DJ ([(IntKind.u8.wrap (IntKind.i64.wrap (128 + (Int.tmod a 128))))]))).bind fun d => (sM n45 (IntKind.i64.wrap (Int.tdiv a 128)) d)) else ((wo b (DJ ([(IntKind.u8.wrap a)]))).bind fun g => some g))
def qg (a0 : Int) : Option ByteArray :=
 sM jY a0 zS
def tG (a0 : ByteArray) : Option ByteArray :=
 ((qg (a0.size : Int)).bind fun a => ((wo a a0).bind fun b => some b))
def sw (a0 : jq) : Option ByteArray :=
 ((tG a0.js).bind fun a => ((tG a0.jy).bind fun b => ((wo a b).bind fun d => some d)))
def zO (a0 : jr) : Option ByteArray :=
 ((qg a0.Kind).bind fun g => ((sw a0.Head).bind fun h => ((wo g h).bind fun a => (if (a0.Kind == 1) then ((tG a0.ky).bind fun i => ((wo a i).bind fun m => some m)) else ((sw a0.B).bind fun j => ((wo a j).bind fun b => (((if (a0.Kind == 3) then ((tG a0.kF).bind fun l => ((wo b l).bind fun p => some p)) else some b) : Option ByteArray).bind fun d => (((if (a0.Kind == 4) then ((sw a0.C).bind fun k => ((wo d k).bind fun n => some n)) else some d) : Option ByteArray).bind fun q => some q))))))))
def vE (a0 : jr) : Option ByteArray :=
 ((vu a0).bind fun a => (if (!a) then some zS else ((zO a0).bind fun b => some b)))
def si (a0 d : jr) : Option Int :=
 ((vE a0).bind fun a => ((vE d).bind fun b => (if (pI a b) then some (-1) else (if (!(pI a b || kQ a b)) then some 1 else some 0))))
def rz (a : List jr) : List jr → Bool → jr → Option (Bool × jr)
 | [], d, g => some (d, g)
 | b :: h, d, g => ((vu b).bind fun i => (((if i then (((if ((a.length : Int) == 0) then some true else ((lE a (IntKind.i64.wrap ((a.length : Int) - 1))).bind fun q => ((si q b).bind fun k => some (decide (k < 0))))) : Option Bool).bind fun p => some p) else some false) : Option Bool).bind fun l => (((if l then (((if (!d) then some true else ((si b g).bind fun j => some (decide (j < 0)))) : Option Bool).bind fun n => some n) else some false) : Option Bool).bind fun m => (if m then (rz a h true b) else (rz a h d g)))))
def tm (a0 : List jr) : Nat → (List jr) → Option (List jr)
 | 0, _ => none
 | d + 1, a => ((rz a a0 false (⟨0, (⟨zS, zS⟩ : jq), zS, (⟨zS, zS⟩ : jq), (⟨zS, zS⟩ : jq), zS⟩ : jr) : Option (Bool × jr)).bind fun (g, h) => (if (!g) then some a else ((mu 136 a ([h])).bind fun b => (tm a0 d b))))
def uz (a0 : List jr) : Option (List jr) :=
 tm a0 jY ([])
def px (g : List jr) : List jr → Nat → Option Bool
 | [], _ => some true
 | d :: b, i90 => ((lE g (i90 : Int)).bind fun a => (if (!(kh d a)) then some false else (px g b (i90 + 1))))
def nv (a0 a : List jr) : Option Bool :=
 (if ((a0.length : Int) != (a.length : Int)) then some false else px a a0 0)
def wS (d : jr) : List jr → Option Bool
 | [] => some false
 | b :: a => (if (kh b d) then some true else (wS d a))
def vN (a0 : List jr) (a : jr) : Option Bool :=
 wS a a0
def re (a : List ByteArray) : List ByteArray → ByteArray → Option ByteArray
 | [], d => some d
 | b :: g, d => ((qR b).bind fun i => (((if i then (((if ((a.length : Int) == 0) then some true else ((lE a (IntKind.i64.wrap ((a.length : Int) - 1))).bind fun h => some (!(pI b h || kQ b h)))) : Option Bool).bind fun m => some m) else some false) : Option Bool).bind fun j => (((if j then (((if (kQ d zS) then some true else some (pI b d)) : Option Bool).bind fun l => some l) else some false) : Option Bool).bind fun k => (if k then (re a g b) else (re a g d)))))
def tp (a0 : List ByteArray) : Nat → (List ByteArray) → Option (List ByteArray)
 | 0, _ => none
 | g + 1, a => ((re a a0 zS : Option ByteArray).bind fun b => (if (kQ b zS) then some a else ((mu 16 a ([b])).bind fun d => (tp a0 g d))))
def zm (a0 : List ByteArray) : Option (List ByteArray) :=
 tp a0 jY ([])
def rp  : List jr → (List ByteArray) → Option (List ByteArray)
 | [], b => ((zm b).bind fun g => some g)
 | a :: h, b => ((mu 16 b ([a.ky, a.Head.js, a.B.js, a.C.js])).bind fun d => (rp h d))
def xJ (a0 : List jr) : Option (List ByteArray) :=
 rp a0 ([])
def vx (g : jq) (a2 : ByteArray) : List jJ → Option Bool
 | [] => some false
 | b :: d => (((if (jP b.jq g) then some (kQ b.ky a2) else some false) : Option Bool).bind fun a => (if a then some true else (vx g a2 d)))
def uo (a0 : List jJ) (a : jq) (a2 : ByteArray) : Option Bool :=
 vx a a2 a0
def uq (a0 : List jJ) (i : jr) (a3 : ByteArray) : List ByteArray → Option Bool
 | [] => some false
 | a :: b => ((uo a0 i.B a).bind fun d => (((if d then ((uo a0 (⟨a, i.kF⟩ : jq) a3).bind fun g => some g) else some false) : Option Bool).bind fun h => (if h then some true else (uq a0 i a3 b))))
def yG (a0 : List jJ) (a : jr) (a2 : List ByteArray) (a3 : ByteArray) : Option Bool :=
 (if (a.Kind == 1) then some (kQ a.ky a3) else (if (a.Kind == 2) then ((uo a0 a.B a3).bind fun g => some g) else (if (a.Kind == 4) then ((uo a0 a.B a3).bind fun h => (((if h then ((uo a0 a.C a3).bind fun b => some b) else some false) : Option Bool).bind fun d => some d)) else uq a0 a a3 a2)))
def tu (a0 a : jJ) : Option Bool :=
 ((wz a0.jq a.jq).bind fun g => (((if g then some true else (((if (jP a0.jq a.jq) then some (pI a0.ky a.ky) else some false) : Option Bool).bind fun d => some d)) : Option Bool).bind fun b => some b))
def oH (b a0 : List jJ) : List jJ → Nat → Int → Option Int
 | [], _, a => some a
 | h :: g, d, a => (((if ((b.length : Int) == 0) then some true else ((lE b (IntKind.i64.wrap ((b.length : Int) - 1))).bind fun p => ((tu p h).bind fun j => some j))) : Option Bool).bind fun k => (((if k then (((if (decide (a < 0)) then some true else ((lE a0 a).bind fun n => ((tu h n).bind fun i => some i))) : Option Bool).bind fun m => some m) else some false) : Option Bool).bind fun l => (if l then (oH b a0 g (d + 1) (d : Int)) else (oH b a0 g (d + 1) a))))
def oE (a0 : List jJ) : List jJ → (List jJ) → Option (List jJ)
 | [], a => some a
 | i :: d, a => ((oH a a0 a0 0 (-1) : Option Int).bind fun b => (if (decide (b ≥ 0)) then ((lE a0 b).bind fun h => ((mu 48 a ([h])).bind fun g => (oE a0 d g))) else (oE a0 d a)))
def yQ (a0 : List jJ) : Option (List jJ) :=
 oE a0 a0 ([])
def tW (b : jr) (m : List ByteArray) : List ByteArray → (List jJ) → Bool → Option ((List jJ) × Bool)
 | [], a, g => some (a, g)
 | d :: h, a, g => ((uo a b.Head d).bind fun j => (((if (!j) then ((yG a b m d).bind fun k => some k) else some false) : Option Bool).bind fun l => (if l then ((mu 48 a ([(⟨b.Head, d⟩ : jJ)])).bind fun i => (tW b m h i true)) else (tW b m h a g))))
def vm (j : List ByteArray) : List jr → (List jJ) → Bool → Option ((List jJ) × Bool)
 | [], a, b => some (a, b)
 | h :: d, a, b => ((tW h j j a b : Option ((List jJ) × Bool)).bind fun (g, i) => (vm j d g i))
def tX (i : List ByteArray) (j : List jr) : Nat → (List jJ) → Option (List jJ)
 | 0, _ => none
 | b + 1, h => ((vm i j h false : Option ((List jJ) × Bool)).bind fun (a, g) => (if (!g) then ((yQ a).bind fun d => some d) else (tX i j b a)))
def wZ (a0 : List jr) : Option (List jJ) :=
 ((uz a0).bind fun b => ((xJ b).bind fun a => tX a b jY ([])))
def ou (a0 : jr) (b : jq) : Option (List kz) :=
 ((Dv 1 0 8).bind fun a => some [(⟨(⟨a0, a⟩ : Signed), (⟨1, 0, b, []⟩ : Formula)⟩ : kz)])
def pg  : List kz → (List jr) → Option (List jr)
 | [], a => ((uh a).bind fun d => some d)
 | h :: g, a => ((mu 136 a ([h.Signed.jr])).bind fun b => (pg g b))
def uu (a0 : kI) : Option (List jr) :=
 pg a0.jH ([])
def uL (a0 : List jr) (b : ByteArray) : Option ((List (jq × (List (ByteArray × Bool)))) × (List jr) × (List (jq × (List jr))) × (List (ByteArray × (List jr))) × (List jJ) × Int × ByteArray) :=
 ((yC a0).bind fun a => some (a.1, a.2.1, a.2.2.1, a.2.2.2.1, a.2.2.2.2.1, a.2.2.2.2.2, b))
def ng (f1 : kz → Option Bool) : List kz → Nat → Option Int
 | [], _ => some (-1)
 | d :: a, i47 => ((f1 d).bind fun b => (if b then some (i47 : Int) else (ng f1 a (i47 + 1))))
def mL (a0 : List kz) (f1 : kz → Option Bool) : Option Int :=
 ng f1 a0 0
def vX (a0 : kz) (a : jr) : Option Bool :=
 some (kh a0.Signed.jr a)
def yg (a0 : kI) (d : jr) : Option (kz × Bool) :=
 ((mL a0.jH (fun (x : kz) => vX x d)).bind fun a => (if (decide (a < 0)) then some ((⟨(⟨(⟨0, (⟨zS, zS⟩ : jq), zS, (⟨zS, zS⟩ : jq), (⟨zS, zS⟩ : jq), zS⟩ : jr), []⟩ : Signed), (⟨0, 0, (⟨zS, zS⟩ : jq), []⟩ : Formula)⟩ : kz), false) else ((lE a0.jH a).bind fun b => some (b, true))))
def um (a0 : List oe) : Option (List oe) :=
 ((mu 128 ([]) a0).bind fun a => some a)
def nL (f1 : oe → Option Bool) : List oe → Nat → Option Int
 | [], _ => some (-1)
 | d :: a, i47 => ((f1 d).bind fun b => (if b then some (i47 : Int) else (nL f1 a (i47 + 1))))
def uy (a0 : List oe) (f1 : oe → Option Bool) : Option Int :=
 nL f1 a0 0
def nE (f1 : oe → Option Bool) : Nat → (List oe) → Int → Int → Option (List oe)
 | 0, _, _, _ => none
 | i + 1, b, a, d => (if (decide (d < (b.length : Int))) then ((((lE b d).bind fun g => ((f1 g).bind fun j => (if (!j) then ((lE b a).bind fun l => some ((b.set (Int.toNat a) g), (IntKind.i64.wrap (a + 1)))) else some (b, a)))) : Option ((List oe) × Int)).bind fun (h, k) => (nE f1 i h k (IntKind.i64.wrap (d + 1)))) else ((rV (decide (0 ≤ a) && decide (a ≤ (b.length : Int)))).bind fun _ => ((rV (decide (0 ≤ a) && decide (a ≤ ((oz b (Int.toNat a) (⟨(⟨zS, zS⟩ : jq), (⟨0, 0, (⟨zS, zS⟩ : jq), []⟩ : Formula), []⟩ : oe)).length : Int)))).bind fun _ => some ((oz b (Int.toNat a) (⟨(⟨zS, zS⟩ : jq), (⟨0, 0, (⟨zS, zS⟩ : jq), []⟩ : Formula), []⟩ : oe)).take (Int.toNat a)))))
def qZ (a0 : List oe) (f1 : oe → Option Bool) : Option (List oe) :=
 ((uy a0 f1).bind fun a => (if (a == (-1)) then some a0 else nE f1 jY a0 a (IntKind.i64.wrap (a + 1))))
def rj (a0 : oe) (a : jr) : Option Bool :=
 ((qK a0.ms a).bind fun b => some (!b))
def xz (a0 : kI) (b : jr) : Option (List oe) :=
 ((um a0.ke).bind fun d => ((qZ d (fun (x : oe) => rj x b)).bind fun a => some a))
def oW (h : Int) (rec : Formula → Int → Option (Int × Int)) : List Formula → Int → Int → Option (Int × Int)
 | [], a, d => some (a, d)
 | i :: g, a, d => (if (decide (a > h)) then some (a, d) else ((rec i (IntKind.i64.wrap (h - a))).bind fun b => (oW h rec g (IntKind.i64.wrap (a + b.1)) (if b.2 > d then b.2 else d))))
def uZ (rec : Formula → Int → Option (Int × Int)) (a0 : Formula) (d : Int) : Option (Int × Int) :=
 ((oW d rec a0.Kids 1 0 : Option (Int × Int)).bind fun (a, b) => some (a, (IntKind.i64.wrap (b + 1))))
def oa : Nat → Formula → Int → Option (Int × Int)
 | 0 => fun _ _ => none
 | n + 1 => uZ (oa n)
def wN (a0 : Formula) : Option (Int × Int) :=
 ((oa jY a0 4096).bind fun a => (if (decide (a.1 > 4096)) then some (0, 0) else some (a.1, a.2)))
def wR (a0 : Formula) : Option Bool :=
 (if (a0.Op == 1) then ((pG a0.jq).bind fun g => (((if g then some ((a0.Kids.length : Int) == 0) else some false) : Option Bool).bind fun h => (((if h then some (a0.K == 0) else some false) : Option Bool).bind fun i => some i))) else (((if (a0.Op == 2) then some (a0.Op == 2) else some (a0.Op == 3)) : Option Bool).bind fun j => (if j then (((if (jP a0.jq (⟨zS, zS⟩ : jq)) then some (a0.K == 0) else some false) : Option Bool).bind fun k => some k) else (((if (a0.Op == 4) then some (jP a0.jq (⟨zS, zS⟩ : jq)) else some false) : Option Bool).bind fun l => (((if l then some (decide (a0.K ≥ 0)) else some false) : Option Bool).bind fun a => (((if a then some (decide (a0.K ≤ (a0.Kids.length : Int))) else some false) : Option Bool).bind fun b => (((if b then some (decide ((a0.Kids.length : Int) ≥ 1)) else some false) : Option Bool).bind fun d => some d)))))))
def nh (f1 : Formula → Option Bool) : List Formula → Nat → Option Int
 | [], _ => some (-1)
 | d :: a, i41 => ((f1 d).bind fun b => (if b then some (i41 : Int) else (nh f1 a (i41 + 1))))
def sH (a0 : List Formula) (f1 : Formula → Option Bool) : Option Int :=
 nh f1 a0 0
def nO (a0 : List Formula) (f1 : Formula → Option Bool) : Option Bool :=
 ((sH a0 f1).bind fun a => some (decide (a ≥ 0)))
def ub (rec : Formula → Option Bool) (a0 : Formula) : Option Bool :=
 ((rec a0).bind fun a => some (!a))
def vk (rec : Formula → Option Bool) (a0 : Formula) : Option Bool :=
 ((wR a0).bind fun d => (((if d then some (decide ((a0.Kids.length : Int) ≤ 8)) else some false) : Option Bool).bind fun g => (((if g then ((nO a0.Kids (fun (x : Formula) => ub rec x)).bind fun a => some (!a)) else some false) : Option Bool).bind fun b => some b)))
def qC : Nat → Formula → Option Bool
 | 0 => fun _ => none
 | n + 1 => vk (qC n)
def qz (a0 : Formula) : Option Bool :=
 ((wN a0).bind fun b => (((if (decide (b.1 ≥ 1)) then some (decide (b.1 ≤ 64)) else some false) : Option Bool).bind fun h => (((if h then some (decide (b.2 ≤ 6)) else some false) : Option Bool).bind fun d => (((if d then ((qC jY a0).bind fun a => some a) else some false) : Option Bool).bind fun g => some g))))
def tk (a0 : Formula) (a : Int) : Option Bool :=
 (((if (a0.Op == a) then some ((a0.Kids.length : Int) == 0) else some false) : Option Bool).bind fun x6 => some x6)
def yA  : Option Formula :=
 some (⟨2, 0, (⟨zS, zS⟩ : jq), []⟩ : Formula)
def yN  : Option Formula :=
 some (⟨3, 0, (⟨zS, zS⟩ : jq), []⟩ : Formula)
def pZ (a0 : Int) : List Formula → (List Formula) → Option (List Formula)
 | [], a => some a
 | b :: d, a => (if (b.Op == a0) then ((mu 72 a b.Kids).bind fun g => (pZ a0 d g)) else ((mu 72 a ([b])).bind fun h => (pZ a0 d h)))
def zQ (a0 : Int) (a : List Formula) : Option (List Formula) :=
 pZ a0 a ([])
def ql (a0 : Formula) (a : Int) : Option Bool :=
 ((tk a0 a).bind fun b => some b)
def rJ (a0 : List Formula) : Option (List Formula) :=
 ((mu 72 ([]) a0).bind fun a => some a)
def lH (p : Int) (f3 : (Formula × Formula) → Option Int) : Nat → (List Formula) → Int → Option (List Formula)
 | 0, _, _ => none
 | h + 1, b, a => (((if (decide (a > p)) then ((lE b a).bind fun k => ((lE b (IntKind.i64.wrap (a - 1))).bind fun l => ((f3 (k, l)).bind fun i => some (decide (i < 0))))) else some false) : Option Bool).bind fun j => (if j then ((lE b (IntKind.i64.wrap (a - 1))).bind fun g => ((lE b a).bind fun d => ((lE b a).bind fun m => ((lE (b.set (Int.toNat a) g) (IntKind.i64.wrap (a - 1))).bind fun n => (lH p f3 h ((b.set (Int.toNat a) g).set (Int.toNat (IntKind.i64.wrap (a - 1))) (⟨d.Op, d.K, d.jq, d.Kids⟩ : Formula)) (IntKind.i64.wrap (a - 1))))))) else some b))
def lm (a2 h : Int) (f3 : (Formula × Formula) → Option Int) : Nat → (List Formula) → Int → Option (List Formula)
 | 0, _, _ => none
 | g + 1, b, a => (if (decide (a < a2)) then ((lH h f3 jY b a : Option (List Formula)).bind fun d => (lm a2 h f3 g d (IntKind.i64.wrap (a + 1)))) else some b)
def mV (a0 : List Formula) (a a2 : Int) (f3 : (Formula × Formula) → Option Int) : Option (List Formula) :=
 lm a2 a f3 jY a0 (IntKind.i64.wrap (a + 1))
def lU (a3 a2 h : Int) : Nat → (List Formula) → Int → Option (List Formula)
 | 0, _, _ => none
 | i + 1, b, a => (if (decide (a < a3)) then ((lE b (IntKind.i64.wrap (a2 + a))).bind fun g => ((lE b (IntKind.i64.wrap (h + a))).bind fun d => ((lE b (IntKind.i64.wrap (h + a))).bind fun j => ((lE (b.set (Int.toNat (IntKind.i64.wrap (h + a))) g) (IntKind.i64.wrap (a2 + a))).bind fun k => (lU a3 a2 h i ((b.set (Int.toNat (IntKind.i64.wrap (h + a))) g).set (Int.toNat (IntKind.i64.wrap (a2 + a))) (⟨d.Op, d.K, d.jq, d.Kids⟩ : Formula)) (IntKind.i64.wrap (a + 1))))))) else some b)
def mM (a0 : List Formula) (a a2 a3 : Int) (f4 : (Formula × Formula) → Option Int) : Option (List Formula) :=
 lU a3 a2 a jY a0 0
def ml (a2 : Int) (f4 : (Formula × Formula) → Option Int) : Nat → (List Formula) → Int → Int → Option (List Formula)
 | 0, _, _, _ => none
 | n185 + 1, d, a, b => (if (a != b) then (if (decide (a > b)) then ((mM d (IntKind.i64.wrap (a2 - a)) a2 b f4).bind fun g => (ml a2 f4 n185 g (IntKind.i64.wrap (a - b)) b)) else ((mM d (IntKind.i64.wrap (a2 - a)) (IntKind.i64.wrap ((IntKind.i64.wrap (a2 + b)) - a)) a f4).bind fun h => (ml a2 f4 n185 h a (IntKind.i64.wrap (b - a))))) else ((mM d (IntKind.i64.wrap (a2 - a)) a2 a f4).bind fun i => some i))
def mH (a0 : List Formula) (a a2 a3 : Int) (f4 : (Formula × Formula) → Option Int) : Option (List Formula) :=
 ml a2 f4 jY a0 (IntKind.i64.wrap (a2 - a)) (IntKind.i64.wrap (a3 - a2))
def lX (h : Int) : Nat → (List Formula) → Int → Option (List Formula)
 | 0, _, _ => none
 | i + 1, b, a => (if (decide (a < (IntKind.i64.wrap (h - 1)))) then ((lE b (IntKind.i64.wrap (a + 1))).bind fun g => ((lE b a).bind fun d => ((lE b a).bind fun j => ((lE (b.set (Int.toNat a) g) (IntKind.i64.wrap (a + 1))).bind fun k => (lX h i ((b.set (Int.toNat a) g).set (Int.toNat (IntKind.i64.wrap (a + 1))) (⟨d.Op, d.K, d.jq, d.Kids⟩ : Formula)) (IntKind.i64.wrap (a + 1))))))) else some b)
def kT (a0 : List Formula) (j : Int) (f4 : (Formula × Formula) → Option Int) : Nat → Int → Int → Option (List Formula)
 | 0, _, _ => none
 | n325 + 1, a, b => (if (decide (a < b)) then ((lE a0 (IntKind.i64.wrap (Int.fdiv (IntKind.u64.wrap (IntKind.i64.wrap (a + b))) (2 ^ min (Int.toNat 1) (IntKind.bits .u64))))).bind fun h => ((lE a0 j).bind fun i => ((f4 (h, i)).bind fun g => (if (decide (g < 0)) then (kT a0 j f4 n325 (IntKind.i64.wrap ((IntKind.i64.wrap (Int.fdiv (IntKind.u64.wrap (IntKind.i64.wrap (a + b))) (2 ^ min (Int.toNat 1) (IntKind.bits .u64)))) + 1)) b) else (kT a0 j f4 n325 a (IntKind.i64.wrap (Int.fdiv (IntKind.u64.wrap (IntKind.i64.wrap (a + b))) (2 ^ min (Int.toNat 1) (IntKind.bits .u64))))))))) else ((lX a jY a0 j : Option (List Formula)).bind fun d => some d))
def lY (g : Int) : Nat → (List Formula) → Int → Option (List Formula)
 | 0, _, _ => none
 | i + 1, b, a => (if (decide (a > g)) then ((lE b (IntKind.i64.wrap (a - 1))).bind fun h => ((lE b a).bind fun d => ((lE b a).bind fun j => ((lE (b.set (Int.toNat a) h) (IntKind.i64.wrap (a - 1))).bind fun k => (lY g i ((b.set (Int.toNat a) h).set (Int.toNat (IntKind.i64.wrap (a - 1))) (⟨d.Op, d.K, d.jq, d.Kids⟩ : Formula)) (IntKind.i64.wrap (a - 1))))))) else some b)
def kU (a0 : List Formula) (a2 : Int) (f4 : (Formula × Formula) → Option Int) : Nat → Int → Int → Option (List Formula)
 | 0, _, _ => none
 | d + 1, a, b => (if (decide (a < b)) then ((lE a0 a2).bind fun i => ((lE a0 (IntKind.i64.wrap (Int.fdiv (IntKind.u64.wrap (IntKind.i64.wrap (a + b))) (2 ^ min (Int.toNat 1) (IntKind.bits .u64))))).bind fun j => ((f4 (i, j)).bind fun h => (if (!(decide (h < 0))) then (kU a0 a2 f4 d (IntKind.i64.wrap ((IntKind.i64.wrap (Int.fdiv (IntKind.u64.wrap (IntKind.i64.wrap (a + b))) (2 ^ min (Int.toNat 1) (IntKind.bits .u64)))) + 1)) b) else (kU a0 a2 f4 d a (IntKind.i64.wrap (Int.fdiv (IntKind.u64.wrap (IntKind.i64.wrap (a + b))) (2 ^ min (Int.toNat 1) (IntKind.bits .u64))))))))) else ((lY a jY a0 a2 : Option (List Formula)).bind fun g => some g))
def kH (a0 : List Formula) (d a3 a2 : Int) (f4 : (Formula × Formula) → Option Int) (rec : (List Formula) → Int → Int → Int → ((Formula × Formula) → Option Int) → Option (List Formula)) : Nat → Int → Int → Option (List Formula)
 | 0, _, _ => none
 | i + 1, a, b => (if (decide (a < b)) then ((lE a0 (IntKind.i64.wrap ((IntKind.i64.wrap ((IntKind.i64.wrap ((IntKind.i64.wrap (Int.fdiv (IntKind.u64.wrap (IntKind.i64.wrap (d + a3))) (2 ^ min (Int.toNat 1) (IntKind.bits .u64)))) + a2)) - 1)) - (IntKind.i64.wrap (Int.fdiv (IntKind.u64.wrap (IntKind.i64.wrap (a + b))) (2 ^ min (Int.toNat 1) (IntKind.bits .u64))))))).bind fun n => ((lE a0 (IntKind.i64.wrap (Int.fdiv (IntKind.u64.wrap (IntKind.i64.wrap (a + b))) (2 ^ min (Int.toNat 1) (IntKind.bits .u64))))).bind fun p => ((f4 (n, p)).bind fun j => (if (!(decide (j < 0))) then (kH a0 d a3 a2 f4 rec i (IntKind.i64.wrap ((IntKind.i64.wrap (Int.fdiv (IntKind.u64.wrap (IntKind.i64.wrap (a + b))) (2 ^ min (Int.toNat 1) (IntKind.bits .u64)))) + 1)) b) else (kH a0 d a3 a2 f4 rec i a (IntKind.i64.wrap (Int.fdiv (IntKind.u64.wrap (IntKind.i64.wrap (a + b))) (2 ^ min (Int.toNat 1) (IntKind.bits .u64))))))))) else (((((if (decide (a < a2)) then some (decide (a2 < (IntKind.i64.wrap ((IntKind.i64.wrap ((IntKind.i64.wrap (Int.fdiv (IntKind.u64.wrap (IntKind.i64.wrap (d + a3))) (2 ^ min (Int.toNat 1) (IntKind.bits .u64)))) + a2)) - a)))) else some false) : Option Bool).bind fun s => (if s then ((mH a0 a a2 (IntKind.i64.wrap ((IntKind.i64.wrap ((IntKind.i64.wrap (Int.fdiv (IntKind.u64.wrap (IntKind.i64.wrap (d + a3))) (2 ^ min (Int.toNat 1) (IntKind.bits .u64)))) + a2)) - a)) f4).bind fun m => some m) else some a0)) : Option (List Formula)).bind fun g => (((((if (decide (d < a)) then some (decide (a < (IntKind.i64.wrap (Int.fdiv (IntKind.u64.wrap (IntKind.i64.wrap (d + a3))) (2 ^ min (Int.toNat 1) (IntKind.bits .u64)))))) else some false) : Option Bool).bind fun r => (if r then ((rec g d a (IntKind.i64.wrap (Int.fdiv (IntKind.u64.wrap (IntKind.i64.wrap (d + a3))) (2 ^ min (Int.toNat 1) (IntKind.bits .u64)))) f4).bind fun l => some l) else some g)) : Option (List Formula)).bind fun h => (((if (decide ((IntKind.i64.wrap (Int.fdiv (IntKind.u64.wrap (IntKind.i64.wrap (d + a3))) (2 ^ min (Int.toNat 1) (IntKind.bits .u64)))) < (IntKind.i64.wrap ((IntKind.i64.wrap ((IntKind.i64.wrap (Int.fdiv (IntKind.u64.wrap (IntKind.i64.wrap (d + a3))) (2 ^ min (Int.toNat 1) (IntKind.bits .u64)))) + a2)) - a)))) then some (decide ((IntKind.i64.wrap ((IntKind.i64.wrap ((IntKind.i64.wrap (Int.fdiv (IntKind.u64.wrap (IntKind.i64.wrap (d + a3))) (2 ^ min (Int.toNat 1) (IntKind.bits .u64)))) + a2)) - a)) < a3)) else some false) : Option Bool).bind fun q => (if q then ((rec h (IntKind.i64.wrap (Int.fdiv (IntKind.u64.wrap (IntKind.i64.wrap (d + a3))) (2 ^ min (Int.toNat 1) (IntKind.bits .u64)))) (IntKind.i64.wrap ((IntKind.i64.wrap ((IntKind.i64.wrap (Int.fdiv (IntKind.u64.wrap (IntKind.i64.wrap (d + a3))) (2 ^ min (Int.toNat 1) (IntKind.bits .u64)))) + a2)) - a)) a3 f4).bind fun k => some k) else some h)))))
def oN (rec : (List Formula) → Int → Int → Int → ((Formula × Formula) → Option Int) → Option (List Formula)) (a0 : List Formula) (a a2 a3 : Int) (f4 : (Formula × Formula) → Option Int) : Option (List Formula) :=
 (if ((IntKind.i64.wrap (a2 - a)) == 1) then kT a0 a f4 jY a2 a3 else (if ((IntKind.i64.wrap (a3 - a2)) == 1) then kU a0 a2 f4 jY a a2 else (((if (decide (a2 > (IntKind.i64.wrap (Int.fdiv (IntKind.u64.wrap (IntKind.i64.wrap (a + a3))) (2 ^ min (Int.toNat 1) (IntKind.bits .u64)))))) then some ((IntKind.i64.wrap ((IntKind.i64.wrap ((IntKind.i64.wrap (Int.fdiv (IntKind.u64.wrap (IntKind.i64.wrap (a + a3))) (2 ^ min (Int.toNat 1) (IntKind.bits .u64)))) + a2)) - a3)), (IntKind.i64.wrap (Int.fdiv (IntKind.u64.wrap (IntKind.i64.wrap (a + a3))) (2 ^ min (Int.toNat 1) (IntKind.bits .u64))))) else some (a, a2)) : Option (Int × Int)).bind fun (b, d) => kH a0 a a3 a2 f4 rec jY b d)))
def lA : Nat → (List Formula) → Int → Int → Int → ((Formula × Formula) → Option Int) → Option (List Formula)
 | 0 => fun _ _ _ _ _ => none
 | n + 1 => oN (lA n)
def mn (j b : Int) (f2 : (Formula × Formula) → Option Int) : Nat → (List Formula) → Int → Int → Option ((List Formula) × Int)
 | 0, _, _, _ => none
 | h + 1, g, d, a => (if (decide (a ≤ j)) then ((lA jY g d (IntKind.i64.wrap (d + b)) a f2).bind fun i => (mn j b f2 h i a (IntKind.i64.wrap (a + (IntKind.i64.wrap (2 * b)))))) else some (g, d))
def lN (k : Int) (f2 : (Formula × Formula) → Option Int) : Nat → (List Formula) → Int → Option (List Formula)
 | 0, _, _ => none
 | i + 1, d, a => (if (decide (a < k)) then ((mn k a f2 jY d 0 (IntKind.i64.wrap (2 * a)) : Option ((List Formula) × Int)).bind fun (g, b) => (((if (decide ((IntKind.i64.wrap (b + a)) < k)) then ((lA jY g b (IntKind.i64.wrap (b + a)) k f2).bind fun j => some j) else some g) : Option (List Formula)).bind fun h => (lN k f2 i h (IntKind.i64.wrap (a * 2))))) else some d)
def lO (j : Int) (f2 : (Formula × Formula) → Option Int) : Nat → (List Formula) → Int → Int → Option (List Formula)
 | 0, _, _, _ => none
 | n123 + 1, d, i, a => (if (decide (a ≤ j)) then ((mV d i a f2).bind fun g => (lO j f2 n123 g a (IntKind.i64.wrap (a + 20)))) else ((mV d i j f2).bind fun h => ((lN j f2 jY h 20 : Option (List Formula)).bind fun b => some b)))
def qD (a0 : List Formula) (a : Int) (f2 : (Formula × Formula) → Option Int) : Option (List Formula) :=
 lO a f2 jY a0 0 20
def oC (a0 : List Formula) (f1 : (Formula × Formula) → Option Int) : Option (List Formula) :=
 ((qD a0 (a0.length : Int) f1).bind fun a => some a)
def qe (rec : (List Int) → Formula → Option (List Int)) : List Formula → (List Int) → Option (List Int)
 | [], a => some a
 | g :: b, a => ((rec a g).bind fun d => (qe rec b d))
def ve (rec : (List Int) → Formula → Option (List Int)) (b : List Int) (a : Formula) : Option (List Int) :=
 ((nR b a.Op).bind fun i => (if (a.Op == 1) then ((pB i.2 a.jq).bind fun h => some h.2) else (((if (a.Op == 4) then ((nR i.2 a.K).bind fun d => some d.2) else some i.2) : Option (List Int)).bind fun g => ((nR g (a.Kids.length : Int)).bind fun j => qe rec a.Kids j.2))))
def pq : Nat → (List Int) → Formula → Option (List Int)
 | 0 => fun _ _ => none
 | n + 1 => ve (pq n)
def wh (a : List Int) (b : Formula) : Option (Bool × (List Int)) :=
 ((qz b).bind fun d => (if (!d) then some (false, a) else ((pq jY a b).bind fun g => some (true, g))))
def sK (a0 : Formula) : Option (List Int) :=
 ((wh ([]) a0).bind fun b => ((tw b.2).bind fun a => some a))
def sQ (a0 g : Formula) : Option Int :=
 ((sK a0).bind fun a => ((sK g).bind fun b => ((vU a b).bind fun d => some d)))
def uJ (a0 : List Formula) : Option (List Formula) :=
 ((rJ a0).bind fun b => ((oC b (fun (x : (Formula × Formula)) => sQ x.1 x.2)).bind fun a => some a))
def mF (b : Int) (f1 : (Formula × Formula) → Option Bool) : Nat → (List Formula) → Int → Int → Option ((List Formula) × Int)
 | 0, _, _, _ => none
 | i + 1, a, d, g => (if (decide (g < ((a.length - (Int.toNat b) : Nat) : Int))) then ((((lE (a.drop (Int.toNat b)) g).bind fun l => ((lE (a.drop (Int.toNat b)) (IntKind.i64.wrap (g - 1))).bind fun m => ((f1 (l, m)).bind fun j => (if (!j) then ((lE (a.drop (Int.toNat b)) g).bind fun n => ((lE a d).bind fun p => some ((a.set (Int.toNat d) n), (IntKind.i64.wrap (d + 1))))) else some (a, d))))) : Option ((List Formula) × Int)).bind fun (h, k) => (mF b f1 i h k (IntKind.i64.wrap (g + 1)))) else some (a, d))
def mD (a0 : List Formula) (f1 : (Formula × Formula) → Option Bool) : Nat → Int → Option (List Formula)
 | 0, _ => none
 | g + 1, a => (if (decide (a < (a0.length : Int))) then ((lE a0 a).bind fun i => ((lE a0 (IntKind.i64.wrap (a - 1))).bind fun j => ((f1 (i, j)).bind fun h => (if h then ((rV (decide (0 ≤ a) && decide (a ≤ (a0.length : Int)))).bind fun _ => ((mF a f1 jY a0 a 1 : Option ((List Formula) × Int)).bind fun (d, b) => ((rV (decide (0 ≤ b) && decide (b ≤ (d.length : Int)))).bind fun _ => ((rV (decide (0 ≤ b) && decide (b ≤ ((oz d (Int.toNat b) (⟨0, 0, (⟨zS, zS⟩ : jq), []⟩ : Formula)).length : Int)))).bind fun _ => some ((oz d (Int.toNat b) (⟨0, 0, (⟨zS, zS⟩ : jq), []⟩ : Formula)).take (Int.toNat b)))))) else (mD a0 f1 g (IntKind.i64.wrap (a + 1))))))) else some a0)
def ph (a0 : List Formula) (f1 : (Formula × Formula) → Option Bool) : Option (List Formula) :=
 (if (decide ((a0.length : Int) < 2)) then some a0 else mD a0 f1 jY 1)
def kR (h : List Formula) (f2 : (Formula × Formula) → Option Bool) : List Formula → Nat → Option Bool
 | [], _ => some true
 | g :: d, i95 => ((lE h (i95 : Int)).bind fun b => ((f2 (g, b)).bind fun a => (if (!a) then some false else (kR h f2 d (i95 + 1)))))
def mC (a0 a : List Formula) (f2 : (Formula × Formula) → Option Bool) : Option Bool :=
 (if ((a0.length : Int) != (a.length : Int)) then some false else kR a f2 a0 0)
def vQ (rec : Formula → Formula → Option Bool) (a0 a : Formula) : Option Bool :=
 (((if (a0.Op == a.Op) then some (a0.K == a.K) else some false) : Option Bool).bind fun d => (((if d then some (jP a0.jq a.jq) else some false) : Option Bool).bind fun g => (((if g then ((mC a0.Kids a.Kids (fun (x : (Formula × Formula)) => rec x.1 x.2)).bind fun b => some b) else some false) : Option Bool).bind fun h => some h)))
def nV : Nat → Formula → Formula → Option Bool
 | 0 => fun _ _ => none
 | n + 1 => vQ (nV n)
def nT (a0 : kC) (d : Int) (a2 : List Formula) : Option (Formula × kC) :=
 ((zQ d a2).bind fun j => ((nO j (fun (x : Formula) => ql x (IntKind.i64.wrap (5 - d)))).bind fun g => (if g then some ((⟨(IntKind.i64.wrap (5 - d)), 0, (⟨zS, zS⟩ : jq), []⟩ : Formula), a0) else ((uJ j).bind fun h => ((ph h (fun (x : (Formula × Formula)) => nV jY x.1 x.2)).bind fun a => (((if (decide ((a.length : Int) > 64)) then some (⟨12⟩ : kC) else some a0) : Option kC).bind fun b => (if ((a.length : Int) == 1) then ((lE a 0).bind fun i => some (i, b)) else some ((⟨d, 0, (⟨zS, zS⟩ : jq), a⟩ : Formula), b))))))))
def mB (a0 : kC) : List Formula → Int → (List Formula) → Option (Formula × kC)
 | [], b, a => (if (decide (b ≤ 0)) then (yA.bind fun m => some (m, a0)) else (if (decide (b > (a.length : Int))) then (yN.bind fun n => some (n, a0)) else (if (b == (a.length : Int)) then ((nT a0 2 a).bind fun h => some (h.1, h.2)) else (if (b == 1) then ((nT a0 3 a).bind fun i => some (i.1, i.2)) else ((uJ a).bind fun p => some ((⟨4, b, (⟨zS, zS⟩ : jq), p⟩ : Formula), a0))))))
 | g :: d, b, a => ((tk g 2).bind fun k => (if k then (mB a0 d (IntKind.i64.wrap (b - 1)) a) else ((tk g 3).bind fun l => (if (!l) then ((mu 72 a ([g])).bind fun j => (mB a0 d b j)) else (mB a0 d b a)))))
def qk (a0 : kC) (a : Int) (a2 : List Formula) : Option (Formula × kC) :=
 mB a0 a2 a ([])
def nC (rec : kC → Formula → Option (Formula × kC)) (l : Formula) : List Formula → (List Formula) → kC → Option (Formula × kC)
 | [], a, b => (if (l.Op == 4) then ((qk b l.K a).bind fun g => some (g.1, g.2)) else ((nT b l.Op a).bind fun h => some (h.1, h.2)))
 | k :: i, a, b => ((rec b k).bind fun d => ((mu 72 a ([d.1])).bind fun j => (nC rec l i j d.2)))
def ry (rec : kC → Formula → Option (Formula × kC)) (a0 : kC) (a : Formula) : Option (Formula × kC) :=
 (if (a.Op == 1) then some (a, a0) else nC rec a a.Kids ([]) a0)
def nc : Nat → kC → Formula → Option (Formula × kC)
 | 0 => fun _ _ => none
 | n + 1 => ry (nc n)
def xr (a0 : Formula) : Option (Formula × Int) :=
 ((qz a0).bind fun g => (if (!g) then some ((⟨0, 0, (⟨zS, zS⟩ : jq), []⟩ : Formula), 11) else ((nc jY (⟨0⟩ : kC) a0).bind fun a => (((if (a.2.e != 0) then some true else ((qz a.1).bind fun b => some (!b))) : Option Bool).bind fun d => (if d then some ((⟨0, 0, (⟨zS, zS⟩ : jq), []⟩ : Formula), 12) else some (a.1, 0))))))
def xH (a0 b : Formula) : Option (Formula × Int) :=
 ((xr (⟨2, 0, (⟨zS, zS⟩ : jq), [a0, b]⟩ : Formula)).bind fun a => some (a.1, a.2))
def tj  : List Formula → Int → Int → Int → jq → (List Formula) → Option (Int × Int × Int × jq × (List Formula))
 | [], d, g, h, i, b => some (d, g, h, i, b)
 | k :: j, d, g, h, i, b => (if (d != 0) then some (d, g, h, i, b) else ((xH (⟨g, h, i, b⟩ : Formula) k).bind fun a => (tj j a.2 ((a.1).Op) ((a.1).K) ((a.1).jq) ((a.1).Kids))))
def vL (a0 : List Formula) : Option (Formula × Int) :=
 ((lE a0 0).bind fun x6 => ((xr x6).bind fun a => ((rV (decide (0 ≤ 1) && decide (1 ≤ (a0.length : Int)))).bind fun _ => ((tj (a0.drop (Int.toNat 1)) a.2 ((a.1).Op) ((a.1).K) ((a.1).jq) ((a.1).Kids) : Option (Int × Int × Int × jq × (List Formula))).bind fun (b, g, h, i, d) => (if (b != 0) then some ((⟨0, 0, (⟨zS, zS⟩ : jq), []⟩ : Formula), b) else some ((⟨g, h, i, d⟩ : Formula), 0))))))
def tZ  : List oe → (List Formula) → Option (Formula × Int)
 | [], a => ((vL a).bind fun b => some (b.1, b.2))
 | h :: d, a => ((mu 72 a ([h.jx])).bind fun g => (tZ d g))
def Ah (a0 : kI) (d : jr) : Option (Formula × Int) :=
 ((yg a0 d).bind fun a => (if (!a.2) then some ((⟨0, 0, (⟨zS, zS⟩ : jq), []⟩ : Formula), 42) else ((xz a0 d).bind fun b => tZ b ([(a.1).jx]))))
def oR (rec : Formula → (jq → Option Bool) → Option Bool) (f1 : jq → Option Bool) (a0 : Formula) : List Formula → Int → Option Bool
 | [], a => (if (a0.Op == 2) then some (a == (a0.Kids.length : Int)) else (if (a0.Op == 3) then some (decide (a > 0)) else some (decide (a ≥ a0.K))))
 | g :: b, a => ((rec g f1).bind fun d => (if d then (oR rec f1 a0 b (IntKind.i64.wrap (a + 1))) else (oR rec f1 a0 b a)))
def vi (rec : Formula → (jq → Option Bool) → Option Bool) (a0 : Formula) (f1 : jq → Option Bool) : Option Bool :=
 (if (a0.Op == 1) then ((f1 a0.jq).bind fun a => some a) else oR rec f1 a0 a0.Kids 0)
def pw : Nat → Formula → (jq → Option Bool) → Option Bool
 | 0 => fun _ _ => none
 | n + 1 => vi (pw n)
def wV (a0 : Formula) (f1 : jq → Option Bool) : Option Bool :=
 ((qz a0).bind fun d => (((if d then ((pw jY a0 f1).bind fun a => some a) else some false) : Option Bool).bind fun b => some b))
def py (a0 : jq) (h : List (jq × (List (ByteArray × Bool)))) (a : List jr) (g : List (jq × (List jr))) (b : List (ByteArray × (List jr))) (d : List jJ) (i : Int) (c1 : ByteArray) : Option Bool :=
 ((vj h a g b d i a0 c1).bind fun j => some j)
def qH (a0 : kI) (d : ((List (jq × (List (ByteArray × Bool)))) × (List jr) × (List (jq × (List jr))) × (List (ByteArray × (List jr))) × (List jJ) × Int × ByteArray)) : List kz → (List jr) → Option (List jr)
 | [], a => ((uh a).bind fun j => some j)
 | g :: b, a => ((Ah a0 g.Signed.jr).bind fun r417 => (((if (r417.2 == 0) then ((wV r417.1 (fun (x : jq) => py x d.1 d.2.1 d.2.2.1 d.2.2.2.1 d.2.2.2.2.1 d.2.2.2.2.2.1 d.2.2.2.2.2.2)).bind fun i => some i) else some false) : Option Bool).bind fun k => (if k then ((mu 136 a ([g.Signed.jr])).bind fun h => (qH a0 d b h)) else (qH a0 d b a))))
def pH (a0 : kI) (a : List jr) (a2 : ByteArray) : Option (List jr) :=
 ((uL a a2).bind fun b => qH a0 b a0.jH ([]))
def wi (a0 : jr) (a : List jr) : Option Bool :=
 ((qK a a0).bind fun b => some (!b))
def wH (a0 b : List jr) : Option (List jr) :=
 ((oI a0).bind fun d => ((nX d (fun (x : jr) => wi x b)).bind fun a => some a))
def om (a0 : nf) : Nat → (List jr) → (List jr) → Option ((List jr) × (List jr))
 | 0, _, _ => none
 | h + 1, a, b => ((pH a0.js b a0.Client.Name).bind fun i => ((wH a i).bind fun d => ((pH a0.Client a a0.js.Name).bind fun r400 => ((wH b r400).bind fun g => (((if ((d.length : Int) == (a.length : Int)) then some ((g.length : Int) == (b.length : Int)) else some false) : Option Bool).bind fun j => (if j then some (a, b) else (om a0 h d g)))))))
def pc (a0 : nf) : Option ((List jr) × (List jr)) :=
 ((uu a0.js).bind fun a => ((uu a0.Client).bind fun b => om a0 jY a b))
def pj (a0 k : kI) : Nat → (List jr) → (List jr) → Int → Option ((List jr) × (List jr) × Int)
 | 0, _, _, _ => none
 | i + 1, a, b, h => ((pH a0 b k.Name).bind fun d => ((pH k a a0.Name).bind fun g => (((if ((d.length : Int) == (a.length : Int)) then some ((g.length : Int) == (b.length : Int)) else some false) : Option Bool).bind fun j => (if j then some (a, b, h) else (pj a0 k i d g (IntKind.i64.wrap (h + 1)))))))
def xt (a0 a : kI) : Option ((List jr) × (List jr) × Int) :=
 pj a0 a jY ([]) ([]) 0
def uX (a0 : jr) (a : List jr) : Option Bool :=
 ((qK a a0).bind fun b => some b)
def vo (a0 b : List jr) : Option (List jr) :=
 ((oI a0).bind fun d => ((nX d (fun (x : jr) => uX x b)).bind fun a => some a))
def qS (a0 : nf) : Option ((List jr) × (List jr)) :=
 ((pc a0).bind fun a => ((xt a0.js a0.Client).bind fun b => ((vo a.1 b.1).bind fun d => ((vo a.2 b.2.1).bind fun g => some (d, g)))))
def oY (a0 : kz) (a : jr) : Option Bool :=
 some (kh a0.Signed.jr a)
def pD (a0 : List kz) : Option (List kz) :=
 ((mu 232 ([]) a0).bind fun a => some a)
def pQ (a0 : nf) (i : Int) (a2 : jr) : Option (nf × Bool) :=
 (((if (decide (i < 0)) then some true else some (decide (i ≥ 2))) : Option Bool).bind fun j => (if j then some (a0, false) else (if (i == 0) then ((mL a0.js.jH (fun (x : kz) => oY x a2)).bind fun a => (if (decide (a < 0)) then some (a0, false) else ((pD a0.js.jH).bind fun d => ((lE d a).bind fun k => some ((⟨(⟨a0.js.Name, (d.set (Int.toNat a) (⟨k.Signed, (⟨2, 0, (⟨zS, zS⟩ : jq), []⟩ : Formula)⟩ : kz)), a0.js.ke⟩ : kI), (⟨a0.Client.Name, a0.Client.jH, a0.Client.ke⟩ : kI), (⟨a0.Formula.Op, a0.Formula.K, a0.Formula.jq, a0.Formula.Kids⟩ : Formula), a0.sI, a0.mG, a0.nD, a0.pP, a0.ow, a0.Keys⟩ : nf), true))))) else (if (i == 1) then ((mL a0.Client.jH (fun (x : kz) => oY x a2)).bind fun b => (if (decide (b < 0)) then some (a0, false) else ((pD a0.Client.jH).bind fun g => ((lE g b).bind fun h => some ((⟨(⟨a0.js.Name, a0.js.jH, a0.js.ke⟩ : kI), (⟨a0.Client.Name, (g.set (Int.toNat b) (⟨h.Signed, (⟨2, 0, (⟨zS, zS⟩ : jq), []⟩ : Formula)⟩ : kz)), a0.Client.ke⟩ : kI), (⟨a0.Formula.Op, a0.Formula.K, a0.Formula.jq, a0.Formula.Kids⟩ : Formula), a0.sI, a0.mG, a0.nD, a0.pP, a0.ow, a0.Keys⟩ : nf), true))))) else none))))
def pC (a0 : nf) : Option Bool :=
 ((qS a0).bind fun a => some ((IntKind.i64.wrap ((a.1.length : Int) + (a.2.length : Int))) == 0))
def vp  : Option Bool :=
 ((((ou (⟨1, (⟨(⟨#[120]⟩ : ByteArray), (⟨#[122]⟩ : ByteArray)⟩ : jq), (⟨#[111, 119, 110]⟩ : ByteArray), (⟨zS, zS⟩ : jq), (⟨zS, zS⟩ : jq), zS⟩ : jr) (⟨(⟨#[120]⟩ : ByteArray), (⟨#[121]⟩ : ByteArray)⟩ : jq)).bind fun A => ((ou (⟨1, (⟨(⟨#[120]⟩ : ByteArray), (⟨#[121]⟩ : ByteArray)⟩ : jq), (⟨#[99, 108, 105]⟩ : ByteArray), (⟨zS, zS⟩ : jq), (⟨zS, zS⟩ : jq), zS⟩ : jr) (⟨(⟨#[120]⟩ : ByteArray), (⟨#[122]⟩ : ByteArray)⟩ : jq)).bind fun D => some ((⟨#[111, 119, 110]⟩ : ByteArray), A, ([]), (⟨#[99, 108, 105]⟩ : ByteArray), D, ([]), 0, 0, (⟨zS, zS⟩ : jq), ([]), 0, (⟨0, 0⟩ : ye), 0, 0, 0, ([]), zS, ([]), ([]), zS, ([]), ([]), 0, 0, (⟨zS, zS⟩ : jq), ([]), 0, (⟨0, 0⟩ : ye), 0, 0, 0, ([])))) : Option (ByteArray × (List kz) × (List oe) × ByteArray × (List kz) × (List oe) × Int × Int × jq × (List Formula) × Int × ye × Int × Int × Int × (List Key) × ByteArray × (List kz) × (List oe) × ByteArray × (List kz) × (List oe) × Int × Int × jq × (List Formula) × Int × ye × Int × Int × Int × (List Key))).bind fun (j, a, b, k, d, g, l, m, n, h, p, q, r, s, t, i, W, O, P, Y, Q, R, Z, a1, a6, T, a7, a8, aa, ab, ad, U) => ((qS (⟨(⟨j, a, b⟩ : kI), (⟨k, d, g⟩ : kI), (⟨l, m, n, h⟩ : Formula), p, q, r, s, t, i⟩ : nf)).bind fun u => ((pc (⟨(⟨j, a, b⟩ : kI), (⟨k, d, g⟩ : kI), (⟨l, m, n, h⟩ : Formula), p, q, r, s, t, i⟩ : nf)).bind fun v => ((pQ (⟨(⟨j, a, b⟩ : kI), (⟨k, d, g⟩ : kI), (⟨l, m, n, h⟩ : Formula), p, q, r, s, t, i⟩ : nf) 1 (⟨1, (⟨(⟨#[120]⟩ : ByteArray), (⟨#[121]⟩ : ByteArray)⟩ : jq), (⟨#[99, 108, 105]⟩ : ByteArray), (⟨zS, zS⟩ : jq), (⟨zS, zS⟩ : jq), zS⟩ : jr)).bind fun w => ((pQ (⟨(⟨j, a, b⟩ : kI), (⟨k, d, g⟩ : kI), (⟨l, m, n, h⟩ : Formula), p, q, r, s, t, i⟩ : nf) 0 (⟨1, (⟨(⟨#[120]⟩ : ByteArray), (⟨#[121]⟩ : ByteArray)⟩ : jq), (⟨#[99, 108, 105]⟩ : ByteArray), (⟨zS, zS⟩ : jq), (⟨zS, zS⟩ : jq), zS⟩ : jr)).bind fun x => (((if ((u.1.length : Int) == 1) then some ((u.2.length : Int) == 1) else some false) : Option Bool).bind fun E => (((if E then some ((v.1.length : Int) == 1) else some false) : Option Bool).bind fun F => (((if F then some ((v.2.length : Int) == 1) else some false) : Option Bool).bind fun G => (((if G then ((pC (⟨(⟨j, a, b⟩ : kI), (⟨k, d, g⟩ : kI), (⟨l, m, n, h⟩ : Formula), p, q, r, s, t, i⟩ : nf)).bind fun z => some (!z)) else some false) : Option Bool).bind fun I => (((if I then some w.2 else some false) : Option Bool).bind fun J => (((if J then some (!x.2) else some false) : Option Bool).bind fun L => (((if L then ((pC w.1).bind fun y => some y) else some false) : Option Bool).bind fun M => some M))))))))))))
def rC (rec : (List Formula) → Option Int) : List Formula → Int → Option Int
 | [], b => some b
 | a :: g, b => ((rec a.Kids).bind fun d => (rC rec g (IntKind.i64.wrap (b + (IntKind.i64.wrap ((IntKind.i64.wrap (1 + (IntKind.i64.wrap (Int.tdiv (IntKind.i64.wrap ((a.jq.js.size : Int) + (a.jq.jy.size : Int))) 16)))) + d))))))
def wq (rec : (List Formula) → Option Int) (a0 : List Formula) : Option Int :=
 rC rec a0 0
def ox : Nat → (List Formula) → Option Int
 | 0 => fun _ => none
 | n + 1 => wq (ox n)
def ru  : List oe → Int → Option Int
 | [], b => some b
 | a :: d, b => ((ox jY ([a.jx])).bind fun g => ((vA a.ms).bind fun h => (ru d (IntKind.i64.wrap (b + (IntKind.i64.wrap ((IntKind.i64.wrap ((IntKind.i64.wrap ((a.jq.js.size : Int) + (a.jq.jy.size : Int))) + (IntKind.i64.wrap (20 * g)))) + h)))))))
def ri (a0 : kI) : List kz → Int → Option Int
 | [], a => ((ru a0.ke a : Option Int).bind fun d => some d)
 | b :: g, a => ((((tV ([]) ([b.Signed])).bind fun j => some (j, ([b.jx]))) : Option (Int × (List Formula))).bind fun (k, h) => ((ox jY h).bind fun i => (ri a0 g (IntKind.i64.wrap (a + (IntKind.i64.wrap (k + (IntKind.i64.wrap (20 * i)))))))))
def vz (a0 : kI) : Option Int :=
 ri a0 a0.jH (a0.Name.size : Int)
def xL (a0 : nf) : Option Int :=
 ((((vz a0.js).bind fun g => ((vz a0.Client).bind fun h => some ((IntKind.i64.wrap (g + h)), ([a0.Formula])))) : Option (Int × (List Formula))).bind fun (i, a) => ((ox jY a).bind fun b => ((tV a0.Keys ([])).bind fun d => some (IntKind.i64.wrap ((IntKind.i64.wrap (i + (IntKind.i64.wrap (20 * b)))) + d)))))
def tg  : List kz → (List jr) → Option (List jr)
 | [], a => ((uz a).bind fun d => some d)
 | h :: g, a => ((mu 136 a ([h.Signed.jr])).bind fun b => (tg g b))
def xw (a0 : kI) : Option (List jr) :=
 tg a0.jH ([])
def pW (h : ByteArray) : List jJ → (List jq) → Option (List jq)
 | [], a => some a
 | g :: b, a => (if (kQ g.ky h) then ((mu 32 a ([g.jq])).bind fun d => (pW h b d)) else (pW h b a))
def vG (a0 : List jJ) (a : ByteArray) : Option (List jq) :=
 pW a a0 ([])
def rq (rec : Formula → Option Int) : List Formula → Int → Option Int
 | [], a => some a
 | g :: d, a => ((rec g).bind fun b => (rq rec d (IntKind.i64.wrap (a + b))))
def wA (rec : Formula → Option Int) (a0 : Formula) : Option Int :=
 rq rec a0.Kids 1
def qU : Nat → Formula → Option Int
 | 0 => fun _ => none
 | n + 1 => wA (qU n)
def sh (rec : Formula → Option Int) : List Formula → Int → Option Int
 | [], a => some (IntKind.i64.wrap (a + 1))
 | g :: d, a => ((rec g).bind fun b => (sh rec d (if b > a then b else a)))
def xh (rec : Formula → Option Int) (a0 : Formula) : Option Int :=
 sh rec a0.Kids 0
def rK : Nat → Formula → Option Int
 | 0 => fun _ => none
 | n + 1 => xh (rK n)
def rY (rec : Formula → Option Bool) : List Formula → Option Bool
 | [] => some true
 | d :: a => ((rec d).bind fun b => (if (!b) then some false else (rY rec a)))
def xf (rec : Formula → Option Bool) (a0 : Formula) : Option Bool :=
 (if (a0.Op == 1) then ((su a0.jq).bind fun n => (((if n then some ((a0.Kids.length : Int) == 0) else some false) : Option Bool).bind fun h => (((if h then some (a0.K == 0) else some false) : Option Bool).bind fun i => some i))) else (((if (decide (a0.Op < 1)) then some true else some (decide (a0.Op > 4))) : Option Bool).bind fun j => (((if j then some true else some (!(jP a0.jq (⟨zS, zS⟩ : jq)))) : Option Bool).bind fun k => (((if k then some true else some (decide ((a0.Kids.length : Int) > 8))) : Option Bool).bind fun l => (if l then some false else (((if (decide (a0.Op < 4)) then some (a0.K != 0) else some false) : Option Bool).bind fun m => (((if m then some true else (((if (a0.Op == 4) then (((if (decide ((a0.Kids.length : Int) < 1)) then some true else some (decide (a0.K < 0))) : Option Bool).bind fun d => (((if d then some true else some (decide (a0.K > (a0.Kids.length : Int)))) : Option Bool).bind fun g => some g)) else some false) : Option Bool).bind fun b => some b)) : Option Bool).bind fun a => (if a then some false else rY rec a0.Kids))))))))
def rW : Nat → Formula → Option Bool
 | 0 => fun _ => none
 | n + 1 => xf (rW n)
def qT (a0 : Formula) : Option Bool :=
 ((qU jY a0).bind fun h => (((if (decide (h ≤ 64)) then ((rK jY a0).bind fun b => some (decide (b ≤ 6))) else some false) : Option Bool).bind fun d => (((if d then ((rW jY a0).bind fun a => some a) else some false) : Option Bool).bind fun g => some g)))
def uO (a0 : Formula) (a : Int) : Option Bool :=
 (((if (a0.Op == a) then some ((a0.Kids.length : Int) == 0) else some false) : Option Bool).bind fun x6 => some x6)
def rn (rec : Formula → Option ByteArray) : List Formula → ByteArray → Option ByteArray
 | [], a => some a
 | h :: g, a => ((rec h).bind fun b => ((wo a b).bind fun d => (rn rec g d)))
def wB (rec : Formula → Option ByteArray) (a0 : Formula) : Option ByteArray :=
 ((qg a0.Op).bind fun g => (if (a0.Op == 1) then ((sw a0.jq).bind fun k => ((wo g k).bind fun h => some h)) else (((if (a0.Op == 4) then ((qg a0.K).bind fun a => ((wo g a).bind fun b => some b)) else some g) : Option ByteArray).bind fun j => ((qg (a0.Kids.length : Int)).bind fun d => ((wo j d).bind fun i => rn rec a0.Kids i)))))
def pd : Nat → Formula → Option ByteArray
 | 0 => fun _ => none
 | n + 1 => wB (pd n)
def vW (a0 j : Formula) : Option Int :=
 ((((qT a0).bind fun h => (if h then ((pd jY a0).bind fun i => some i) else some zS)) : Option ByteArray).bind fun a => ((((qT j).bind fun d => (if d then ((pd jY j).bind fun g => some g) else some zS)) : Option ByteArray).bind fun b => (if (pI a b) then some (-1) else (if (!(pI a b || kQ a b)) then some 1 else some 0))))
def sm (h : Formula) (rec : Formula → Formula → Option Bool) : List Formula → Nat → Option Bool
 | [], _ => some true
 | d :: a, i182 => ((lE h.Kids (i182 : Int)).bind fun g => ((rec d g).bind fun b => (if (!b) then some false else (sm h rec a (i182 + 1)))))
def xe (rec : Formula → Formula → Option Bool) (a0 a : Formula) : Option Bool :=
 (((if (a0.Op != a.Op) then some true else some (a0.K != a.K)) : Option Bool).bind fun b => (((if b then some true else some (!(jP a0.jq a.jq))) : Option Bool).bind fun d => (((if d then some true else some ((a0.Kids.length : Int) != (a.Kids.length : Int))) : Option Bool).bind fun g => (if g then some false else sm a rec a0.Kids 0))))
def qu : Nat → Formula → Formula → Option Bool
 | 0 => fun _ _ => none
 | n + 1 => xe (qu n)
def pp (b : List Formula) (d : Formula) : Nat → Int → Option Int
 | 0, _ => none
 | g + 1, a => (((if (decide (a > 0)) then ((lE b (IntKind.i64.wrap (a - 1))).bind fun j => ((vW j d).bind fun h => some (decide (h > 0)))) else some false) : Option Bool).bind fun i => (if i then (pp b d g (IntKind.i64.wrap (a - 1))) else some a))
def mw (p : Bool) : List Formula → (List Formula) → Option (List Formula)
 | [], a => some a
 | d :: g, a => ((pp a d jY (a.length : Int) : Option Int).bind fun b => (((if p then some (decide (b > 0)) else some false) : Option Bool).bind fun l => (((if l then ((lE a (IntKind.i64.wrap (b - 1))).bind fun n => ((qu jY n d).bind fun k => some k)) else some false) : Option Bool).bind fun m => (if m then (mw p g a) else ((rV (decide (0 ≤ b) && decide (b ≤ (a.length : Int)))).bind fun _ => ((mu 72 ([]) (a.take (Int.toNat b))).bind fun h => ((mu 72 h ([d])).bind fun i => ((rV (decide (0 ≤ b) && decide (b ≤ (a.length : Int)))).bind fun _ => ((mu 72 i (a.drop (Int.toNat b))).bind fun j => (mw p g j))))))))))
def uE (a0 : List Formula) (a : Bool) : Option (List Formula) :=
 mw a a0 ([])
def pa (g : Int) (a0 : kM) : List Formula → Option ((Formula × kM) ⊕ Unit)
 | [] => some (Sum.inr ())
 | d :: a => ((uO d (IntKind.i64.wrap (5 - g))).bind fun b => (if b then some (Sum.inl ((⟨(IntKind.i64.wrap (5 - g)), 0, (⟨zS, zS⟩ : jq), []⟩ : Formula), a0)) else (pa g a0 a)))
def mY (i : Int) (a0 : kM) : List Formula → (List Formula) → Option (Formula × kM)
 | [], a => ((pa i a0 a : Option ((Formula × kM) ⊕ Unit)).bind fun s => match s with | .inl l => some l | .inr _ => ((uE a true).bind fun b => (((if a0.Nt then some true else some (decide ((b.length : Int) > 64))) : Option Bool).bind fun h => (if ((b.length : Int) == 1) then ((lE b 0).bind fun n => some (n, (⟨h⟩ : kM))) else some ((⟨i, 0, (⟨zS, zS⟩ : jq), b⟩ : Formula), (⟨h⟩ : kM))))))
 | d :: g, a => (if (d.Op == i) then ((mu 72 a d.Kids).bind fun j => (mY i a0 g j)) else ((uO d (IntKind.i64.wrap (5 - i))).bind fun m => (if m then some ((⟨(IntKind.i64.wrap (5 - i)), 0, (⟨zS, zS⟩ : jq), []⟩ : Formula), a0) else ((mu 72 a ([d])).bind fun k => (mY i a0 g k)))))
def oP (a0 : kM) (a : Int) (a2 : List Formula) : Option (Formula × kM) :=
 mY a a0 a2 ([])
def mQ  : List Formula → Int → (List Formula) → Option (Int × (List Formula))
 | [], b, a => some (b, a)
 | g :: d, b, a => ((uO g 2).bind fun i => (if i then (mQ d (IntKind.i64.wrap (b - 1)) a) else ((uO g 3).bind fun j => (if (!j) then ((mu 72 a ([g])).bind fun h => (mQ d b h)) else (mQ d b a)))))
def nj (rec : kM → Formula → Option (Formula × kM)) (q : Formula) : List Formula → (List Formula) → kM → Option (Formula × kM)
 | [], g, a => (if (decide (q.Op < 4)) then ((oP a q.Op g).bind fun i => some (i.1, i.2)) else ((mQ g q.K ([]) : Option (Int × (List Formula))).bind fun (d, b) => (if (decide (d ≤ 0)) then some ((⟨2, 0, (⟨zS, zS⟩ : jq), []⟩ : Formula), a) else (if (decide (d > (b.length : Int))) then some ((⟨3, 0, (⟨zS, zS⟩ : jq), []⟩ : Formula), a) else (if (d == (b.length : Int)) then ((oP a 2 b).bind fun j => some (j.1, j.2)) else (if (d == 1) then ((oP a 3 b).bind fun k => some (k.1, k.2)) else ((uE b false).bind fun n => some ((⟨4, d, (⟨zS, zS⟩ : jq), n⟩ : Formula), a))))))))
 | p :: l, g, a => ((rec a p).bind fun h => ((mu 72 g ([h.1])).bind fun m => (nj rec q l m h.2)))
def rT (rec : kM → Formula → Option (Formula × kM)) (a0 : kM) (a : Formula) : Option (Formula × kM) :=
 (if (a.Op == 1) then some (a, a0) else nj rec a a.Kids ([]) a0)
def mX : Nat → kM → Formula → Option (Formula × kM)
 | 0 => fun _ _ => none
 | n + 1 => rT (mX n)
def yy (a0 : Formula) : Option (Formula × Int) :=
 ((qT a0).bind fun g => (if (!g) then some ((⟨0, 0, (⟨zS, zS⟩ : jq), []⟩ : Formula), 11) else ((mX jY (⟨false⟩ : kM) a0).bind fun a => (((if a.2.Nt then some true else ((qT a.1).bind fun b => some (!b))) : Option Bool).bind fun d => (if d then some ((⟨0, 0, (⟨zS, zS⟩ : jq), []⟩ : Formula), 12) else some (a.1, 0))))))
def sE (n : jr) : List oe → Int → Int → Int → jq → (List Formula) → Option (Int × Int × Int × jq × (List Formula))
 | [], d, g, h, i, b => some (d, g, h, i, b)
 | k :: j, d, g, h, i, b => (((if (d == 0) then ((vN k.ms n).bind fun l => some l) else some false) : Option Bool).bind fun m => (if m then ((yy (⟨2, 0, (⟨zS, zS⟩ : jq), [(⟨g, h, i, b⟩ : Formula), k.jx]⟩ : Formula)).bind fun a => (sE n j a.2 ((a.1).Op) ((a.1).K) ((a.1).jq) ((a.1).Kids))) else (sE n j d g h i b)))
def vr (l : jr) (a0 : kI) : List kz → Option (Formula × Int)
 | [] => some ((⟨0, 0, (⟨zS, zS⟩ : jq), []⟩ : Formula), 42)
 | b :: g => (if (!(kh b.Signed.jr l)) then (vr l a0 g) else ((yy b.jx).bind fun a => ((sE l a0.ke a.2 ((a.1).Op) ((a.1).K) ((a.1).jq) ((a.1).Kids) : Option (Int × Int × Int × jq × (List Formula))).bind fun (d, i, j, k, h) => (if (d != 0) then some ((⟨0, 0, (⟨zS, zS⟩ : jq), []⟩ : Formula), d) else some ((⟨i, j, k, h⟩ : Formula), 0)))))
def Ad (a0 : kI) (a : jr) : Option (Formula × Int) :=
 vr a a0 a0.jH
def wY (d : jq) : List jq → Option Bool
 | [] => some false
 | b :: a => (if (jP b d) then some true else (wY d a))
def zr (a0 : List jq) (a : jq) : Option Bool :=
 wY a a0
def qy (rec : Formula → (List jq) → Option Bool) (g : List jq) (a0 : Formula) : List Formula → Int → Option Bool
 | [], a => (if (a0.Op == 2) then some (a == (a0.Kids.length : Int)) else (if (a0.Op == 3) then some (decide (a > 0)) else some (decide (a ≥ a0.K))))
 | h :: b, a => ((rec h g).bind fun d => (if d then (qy rec g a0 b (IntKind.i64.wrap (a + 1))) else (qy rec g a0 b a)))
def xi (rec : Formula → (List jq) → Option Bool) (a0 : Formula) (a : List jq) : Option Bool :=
 (if (a0.Op == 1) then ((zr a a0.jq).bind fun b => some b) else qy rec a a0 a0.Kids 0)
def rO : Nat → Formula → (List jq) → Option Bool
 | 0 => fun _ _ => none
 | n + 1 => xi (rO n)
def qJ (a0 : kI) (h : List jq) : List kz → (List jr) → Option (List jr)
 | [], a => ((uz a).bind fun k => some k)
 | g :: b, a => ((Ad a0 g.Signed.jr).bind fun d => (((if (d.2 == 0) then ((rO jY d.1 h).bind fun j => some j) else some false) : Option Bool).bind fun l => (if l then ((mu 136 a ([g.Signed.jr])).bind fun i => (qJ a0 h b i)) else (qJ a0 h b a))))
def tL (a0 : kI) (b : List jr) (a2 : ByteArray) : Option (List jr) :=
 ((wZ b).bind fun d => ((vG d a2).bind fun a => qJ a0 a a0.jH ([])))
def qt (i : List jr) : List jr → (List jr) → Option (List jr)
 | [], a => some a
 | h :: b, a => ((vN i h).bind fun g => (if g then ((mu 136 a ([h])).bind fun d => (qt i b d)) else (qt i b a)))
def wu (a0 a : List jr) : Option (List jr) :=
 qt a a0 ([])
def pS (a0 : nf) : Nat → (List jr) → (List jr) → Option ((List jr) × (List jr))
 | 0, _, _ => none
 | h + 1, a, b => ((tL a0.js b a0.Client.Name).bind fun r417 => ((wu a r417).bind fun d => ((tL a0.Client a a0.js.Name).bind fun i => ((wu b i).bind fun g => ((nv d a).bind fun j => (((if j then ((nv g b).bind fun k => some k) else some false) : Option Bool).bind fun l => (if l then some (d, g) else (pS a0 h d g))))))))
def vn (a0 : nf) : Option ((List jr) × (List jr)) :=
 ((xw a0.js).bind fun a => ((xw a0.Client).bind fun b => pS a0 jY a b))
def sr (a0 l : kI) : Nat → (List jr) → (List jr) → Int → Option ((List jr) × (List jr) × Int)
 | 0, _, _, _ => none
 | n296 + 1, a, b, h => ((tL a0 b l.Name).bind fun d => ((tL l a a0.Name).bind fun g => ((nv d a).bind fun i => (((if i then ((nv g b).bind fun j => some j) else some false) : Option Bool).bind fun k => (if k then some (a, b, h) else (sr a0 l n296 d g (IntKind.i64.wrap (h + 1))))))))
def Cz (a0 a : kI) : Option ((List jr) × (List jr) × Int) :=
 sr a0 a jY ([]) ([]) 0
def pU (i : List jr) : List jr → (List jr) → Option (List jr)
 | [], a => some a
 | h :: b, a => ((vN i h).bind fun g => (if (!g) then ((mu 136 a ([h])).bind fun d => (pU i b d)) else (pU i b a)))
def vt (a0 a : List jr) : Option (List jr) :=
 pU a a0 ([])
def xK (a0 : nf) : Option ((List jr) × (List jr)) :=
 ((vn a0).bind fun a => ((Cz a0.js a0.Client).bind fun b => ((vt a.1 b.1).bind fun d => ((vt a.2 b.2.1).bind fun g => some (d, g)))))
def uk (a0 : nf) : Option Bool :=
 (vp.bind fun p => (if (!p) then some false else ((xL a0).bind fun q => (if (decide (q > 6000)) then some true else ((pc a0).bind fun i => ((vn a0).bind fun j => ((qS a0).bind fun k => ((xK a0).bind fun a => ((nv i.1 j.1).bind fun r => (((if r then ((nv i.2 j.2).bind fun h => some h) else some false) : Option Bool).bind fun s => (((if s then ((nv k.1 a.1).bind fun g => some g) else some false) : Option Bool).bind fun l => (((if l then ((nv k.2 a.2).bind fun d => some d) else some false) : Option Bool).bind fun m => (((if m then ((pC a0).bind fun b => some (b == ((IntKind.i64.wrap ((a.1.length : Int) + (a.2.length : Int))) == 0))) else some false) : Option Bool).bind fun n => some n)))))))))))))
end
end Go.Proofs.YtmlncblocfcmiaaGreat
