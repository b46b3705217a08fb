/- a part of a proof of GuardRises -/
import Derived.Test.YtmlncblocfcmiaaGreatRtTg
import Derived.Laws.IdiomStrings
import Derived.Laws.MakeOwn
import Derived.Shelf.SlSortCmp.NoneTotal
import Derived.Shelf.SortM.Plain
import Derived.Shelf.SortM.SortNone
import Derived.Shelf.SlIter.Sorted
import Derived.Shelf.SlIter.Nil
import Derived.Test.YtmlncblocfcmiaaGreatProg
import Derived.KernelRfl
set_option linter.all false
namespace Go.Proofs.YtmlncblocfcmiaaGreat
open Go.RowKit
def eS (dd : Bool) (P : Program) (f : FuncId) (args : List Value) (w : World) (μ0 : bD) (L0 : List (Nat × Obj)) (K : Value → List (Nat × Obj) → bD → Prop) : Prop :=
  Calls P f args.toArray w fun e w' => ∃ v L1 μ1, e = .returned v ∧ rc dd L0 L1 w w' ∧ bE μ0 μ1 ∧ Lo (keys L0) w μ0 μ1 ∧ bE μ1 (rp w' L1) ∧ K v L1 μ1
theorem eS.weak {dd : Bool} {P : Program} {f : FuncId} {args : List Value} {w : World} {μ0 : bD} {L0 : List (Nat × Obj)} {K : Value → List (Nat × Obj) → bD → Prop} (h : eS true P f args w μ0 L0 K) : eS dd P f args w μ0 L0 K :=
  Calls.mono h fun _ _ ⟨v, L1, μ1, h1, h2, h3⟩ => ⟨v, L1, μ1, h1, h2.weak, h3⟩
section
variable {dd : Bool} {F : Nat → Prop} {w W W' : World} {μ μ1 : bD} {L L0 L1 L2 : List (Nat × Obj)}
theorem ST.backD (h : ST dd F w W μ (L0 ++ L)) (hb : rc dd L0 L1 W W') (hl : Lo (keys L0) W μ μ1) (hs : bE μ1 (rp W' L1)) : ST dd F w W' μ1 (L1 ++ L) := by
  have h1 := h.back hb
  refine ⟨h1.os, h1.tape, h1.output, h1.drawn, h1.size, h1.old, fun b o hm => ?_, fun b o ho => ?_, h1.nd⟩
  · have := hs b o hm
    unfold rp at this
    split at this
    · cases this
    · exact this
  · obtain ⟨q1, q2, q3⟩ := h1.box b o ho
    refine ⟨q1, ?_, q3⟩
    rcases List.mem_append.1 ho with ho | ho
    · cases hm : μ1 b with
      | none => rfl
      | some x =>
        have := hs b x hm
        unfold rp at this
        rw [if_pos ⟨o, ho⟩] at this
        cases this
    · have hbx := h.box b o (List.mem_append_right _ ho)
      rw [hl b (iB hbx.1) (Ab h.nd ho)]
      exact hbx.2.1
variable {P : Program} {E : Nat → Value} {d : Option Nat} {ty : TypeId} {pos : String} {af : Array Edge} {g : Option (Nat × Bool)}
theorem HK {K : Value → World → Prop} {K' : Value → List (Nat × Obj) → bD → Prop} {f : FuncId} {fv : Operand} {ax : Array Operand} {ats : Array TypeId} {caps : Array Value} {args : List Value} (L0 L2 : List (Nat × Obj)) (hST : ST dd F w W μ L) (hL : L.Perm (L0 ++ L2))
    (hf : aS E fv = .func (.func f) #[] caps) (he : ∀ args w, (callFunc f args).run P w = .ok (.enter f args) w) (ha : ax.map (aS E) ++ (#[] : Array Value) = args.toArray)
    (hc : yV L0 W → (L0.map (·.1)).Nodup → bE μ (rp W L0) → (∀ b o, (b, o) ∈ L2 → rp W L0 b = some o) → eS dd P f (args ++ caps.toList) W μ L0 K')
    (h : ∀ W' v μ' L1, ST dd F w W' μ' (L1 ++ L2) → bE μ μ' → Lo F w μ μ' → K' v L1 μ' → K v W') : gG P E ⟨d, .call ⟨.value fv, ax, ats⟩, ty, pos, af, g⟩ W K := by
  have ha' : ax.map (aS E) = args.toArray := by simpa using ha
  refine zJ (args := (args ++ caps.toList).toArray) hf he (by rw [ha']; simp) (Calls.mono (hc (hST.held hL) (hST.ndup hL) (hST.subx hL) (hST.hpx_mem hL)) (fun _ W' ⟨v, L1, μ1, h1, h2, h3, h4, h5, h6⟩ => ⟨v, h1, h W' v μ1 L1 ((hST.perm hL).backD h2 h4 h5) h3 (fun b hb hF => h4 b (Nat.lt_of_lt_of_le hb hST.size) (fun ⟨o, ho⟩ => by
    rcases ((hST.perm hL).box b o (List.mem_append_left _ ho)).2.2 with q | q
    · omega
    · exact hF q)) h6⟩))
end
end Go.Proofs.YtmlncblocfcmiaaGreat
namespace Go.Proofs.YtmlncblocfcmiaaGreat
open Go.RowKit
section
variable {P : Program} {E : Nat → Value} {W : World} {d : Option Nat} {ty : TypeId} {pos : String} {af : Array Edge} {g : Option (Nat × Bool)}
  {dd : Bool} {F : Nat → Prop} {w : World} {μ : bD} {L : List (Nat × Obj)}
def xT {α : Type} (by_ : Nat) (z : α) (n : Int) : Option (List α) := if 0 ≤ n ∧ (by_ : Int) * n ≤ 140737488355328 ∧ n ≤ (maxLen : Int) then some (List.replicate n.toNat z) else none
theorem B6 {α : Type} {enc : α → List Value} {k : Nat} (hk : ∀ x, (enc x).length = k) (hk0 : 0 < k) (z : α) (n : Nat) : (madeCells (enc z).toArray (n * k)).toList = ((List.replicate n z).map enc).flatten := by
  apply List.ext_getElem
  · rw [kV hk, Array.length_toList, size_madeCells]; simp
  · intro i h1 h2
    rw [Array.length_toList, size_madeCells] at h1
    have hq : i / k < n := by rw [Nat.div_lt_iff_lt_mul hk0]; exact h1
    have hr : i % k < (enc z).length := by rw [hk]; exact Nat.mod_lt _ hk0
    have e1 := sx hk (List.replicate n z) (i / k) z (by rw [List.getElem?_replicate, if_pos hq]) (i % k) _ (List.getElem?_eq_getElem hr)
    rw [show i / k * k + i % k = i by rw [Nat.mul_comm]; exact Nat.div_add_mod i k] at e1
    rw [List.getElem?_eq_getElem h2] at e1
    have e2 := Option.some.inj e1
    rw [e2]
    simp only [madeCells, Array.getElem_toList, Array.getElem_map, Array.getElem_range, List.size_toArray, hk]
    rw [getElem!_pos _ _ (by simpa using hr)]
    simp
theorem lU {K : Value → World → Prop} {α : Type} {e t : TypeId} {enc : α → List Value} {k by_ : Nat} {zv : Value} {n : Int} {ik : IntKind} {z : α} {r : List α} {x y : Operand} {i : TypeInfo}
    (hST : ST dd F w W μ L) (hk : ∀ x, (enc x).length = k) (hk0 : 0 < k) (ht : P.underlying t = some (.slice e)) (hi : P.info? e = some i) (hz : i.zero = some zv) (hsz : i.size = k) (hby : i.bytes = by_) (hc : zv.cells = (enc z).toArray)
    (hx : aS E x = .int ik n) (hy : aS E y = .int ik n) (hb : xT by_ z n = some r)
    (h : ∀ W' v' R', ST dd F w W' μ (R' ++ L) → bI e enc k v' r R' → K v' W') : gG P E ⟨d, .makeSlice t x y, ty, pos, af, g⟩ W K := by
  unfold xT at hb
  split at hb
  case isFalse => cases hb
  rename_i hbb
  cases hb
  obtain ⟨h0, h1, h2⟩ := hbb
  subst hsz; subst hby
  have hM : n.toNat ≤ maxLen := by omega
  have hr := run_make (P := P) W t e i zv ht hi hz ik ik n n h0 (Int.le_refl _) (by omega) (by simp only [maxLen] at h2; omega)
  refine .inl ⟨.slice (some ⟨W.heap.size, 0, none⟩) n.toNat n.toNat, W.alloc (.cells (madeCells zv.cells (n.toNat * i.size)) e), ?_, h _ _ [(W.heap.size, .cells (madeCells zv.cells (n.toNat * i.size)) e)] (hST.alloc _) ?_⟩
  · show (do pure (.value (← Instr.makeSlice t (aS E x) (aS E y))) : Sem Next).run P W = _
    rw [hx, hy]
    simp only [Sem.run_bind, hr, Result.andThen_ok, Sem.run_pure]
  · exact bI.lit (by rw [List.length_replicate]) hM (by rw [hc]; exact B6 hk hk0 z _) (by rw [size_madeCells])
end
section
variable {P : Program} {E : Nat → Value} {W : World} {d : Option Nat} {ty : TypeId} {pos : String} {af : Array Edge} {g : Option (Nat × Bool)}
theorem JS {op : BinOp} {tx tv : TypeId} {x y : Operand} {k : IntKind} {a b : Int} {v : Value} (hx : aS E x = .int k a) (hy : aS E y = .int k b)
    (hv : (match op with | .and => some (BitVec.ofInt k.bits a &&& BitVec.ofInt k.bits b) | .or => some (BitVec.ofInt k.bits a ||| BitVec.ofInt k.bits b) | .xor => some (BitVec.ofInt k.bits a ^^^ BitVec.ofInt k.bits b) | _ => none).map (fun (c : BitVec k.bits) => Value.int k (k.wrap c.toNat)) = some v) :
    dW P E ⟨d, .binOp op tx x y tv, ty, pos, af, g⟩ W v W := by
  show (do let r ← (do eqGuard op tx x y (aS E x) (aS E y); binOp op tx (aS E x) (aS E y)); pure (.value r) : Sem Next).run P W = _
  rw [hx, hy]
  cases op <;> simp at hv <;> subst hv <;> simp [eqGuard, binOp, Op.intBits]
end
theorem mS.cell1 {κ γ : Type} {kenc : κ → Value} {Q : Value → γ → List (Nat × Obj) → Prop} {μ : bD} {v : Value} {l : List (κ × γ)} (h : mS kenc Q μ v l) : v.oneCell' = true := by
  obtain ⟨lv, R, h, _⟩ := h
  obtain ⟨m, rfl⟩ := h.form
  rfl
theorem rl.cell1 {κ β : Type} {kenc : κ → Value} {vf : β → Value} {μ : bD} {v : Value} {l : List (κ × β)} (h : rl kenc vf μ v l) : v.oneCell' = true := by
  obtain ⟨m, rfl⟩ := h.form
  rfl
section
variable {β : Type} {Rl : jX β} {k : Nat} {μ μ' : bD} {v : Value} {x : Option β}
def tR (Rl : jX β) (μ : bD) (v : Value) (x : Option β) : Prop := (v = .pointer none ∧ x = none) ∨ ∃ y ys, x = some y ∧ At μ v ys ∧ Rl μ ys y
theorem tR.nil : tR Rl μ (.pointer none) none := .inl ⟨rfl, rfl⟩
theorem tR.some {y : β} {ys : List Value} (h : At μ v ys) (hr : Rl μ ys y) : tR Rl μ v (some y) := .inr ⟨y, ys, rfl, h, hr⟩
theorem tR.mono (hD : Deep Rl k) (h : tR Rl μ v x) (hs : bE μ μ') : tR Rl μ' v x := by
  rcases h with h | ⟨y, ys, h1, h2, h3⟩
  · exact .inl h
  · exact .inr ⟨y, ys, h1, h2.mono hs, hD.mono _ _ _ _ hs h3⟩
theorem tR.cell1 (h : tR Rl μ v x) : v.oneCell' = true := by
  rcases h with ⟨rfl, _⟩ | ⟨y, ys, _, ⟨b, off, cs, T, fr, rfl, _⟩, _⟩ <;> rfl
variable {P : Program} {E : Nat → Value} {W : World} {d : Option Nat} {ty : TypeId} {pos : String} {af : Array Edge} {g : Option (Nat × Bool)}
theorem F7 {tx tv e : TypeId} {a b : Operand} (ht : P.underlying tx = some (.pointer e)) (h : tR Rl μ v x) (hx : aS E a = v) (hy : aS E b = .pointer none) :
    dW P E ⟨d, .binOp .eql tx a b tv, ty, pos, af, g⟩ W (.bool x.isNone) W := by
  rcases h with ⟨rfl, rfl⟩ | ⟨y, ys, rfl, ⟨b', off, cs, T, fr, rfl, _⟩, _⟩
  · exact pV (a := none) ht hx hy
  · exact pV (a := Option.some _) ht hx hy
theorem CR {a : Operand} {y : β} {A : List Value → Prop} (ho : ∀ {ys}, Rl μ ys y → A ys) (h : tR Rl μ v x) (hz : x = Option.some y) (hx : aS E a = v) :
    ∃ p, (∃ ys, A ys ∧ At μ p ys) ∧ ∀ W, dW P E ⟨d, .nilCheck a, ty, pos, af, g⟩ W p W := by
  rcases h with ⟨_, rfl⟩ | ⟨z, ys, rfl, h2, h3⟩
  · cases hz
  · cases hz
    refine ⟨v, ⟨ys, ho h3, h2⟩, fun W => ?_⟩
    obtain ⟨b', off, cs, T, fr, rfl, _⟩ := h2
    exact cT hx
end
end Go.Proofs.YtmlncblocfcmiaaGreat
namespace Go.Proofs.YtmlncblocfcmiaaGreat
open Go.RowKit
section
variable {dd : Bool}
def uG {α : Type} (R : jX α) : bD → List Value → α → Prop := fun μ vs x => ∃ ys, vs = [.agg ys.toArray] ∧ R μ ys x
def rn {α β : Type} (R : jX α) (S : jX β) : bD → List Value → α × β → Prop := fun μ vs x => ∃ ys zs, vs = [.agg ys.toArray, .agg zs.toArray] ∧ R μ ys x.1 ∧ S μ zs x.2
theorem uG.mk {α : Type} {R : jX α} {k : Nat} {μ μ' : bD} {ys : List Value} {x : α} (hD : Deep R k) (h : R μ ys x) (hs : bE μ μ') : uG R μ' [.agg ys.toArray] x := ⟨ys, rfl, hD.mono _ _ _ _ hs h⟩
theorem rn.mk {α β : Type} {R : jX α} {S : jX β} {k m : Nat} {μ μ' : bD} {ys zs : List Value} {x : α} {y : β} (hD : Deep R k) (hE : Deep S m) (h : R μ ys x) (h2 : S μ zs y) (hs : bE μ μ') : rn R S μ' [.agg ys.toArray, .agg zs.toArray] (x, y) :=
  ⟨ys, zs, rfl, hD.mono _ _ _ _ hs h, hE.mono _ _ _ _ hs h2⟩
def sf {α β : Type} (P : Program) (fv : Value) (μ : bD) (Ra : bD → List Value → α → Prop) (rv : β → Value) (pm : α → Option β) : Prop :=
  ∃ f first caps, fv = .func (.func f) first caps ∧ (∀ args w, (callFunc f args).run P w = .ok (.enter f args) w) ∧ ∀ W x vs r, bE μ (hp W) → Ra (hp W) vs x → pm x = some r → bO false P f (first.toList ++ (vs ++ caps.toList)) W (rv r)
theorem sf.form {α β : Type} {P : Program} {fv : Value} {μ : bD} {Ra : bD → List Value → α → Prop} {rv : β → Value} {pm : α → Option β} (h : sf P fv μ Ra rv pm) : ∃ f a b, fv = .func f a b := let ⟨f, a, b, h, _⟩ := h; ⟨_, a, b, h⟩
end
section
variable {P : Program} {W : World} {E : Nat → Value} {d : Option Nat} {ty : TypeId} {pos : String} {af : Array Edge} {g : Option (Nat × Bool)} {F : Nat → Prop} {w : World} {μ μ0 : bD} {L : List (Nat × Obj)}
theorem sf.mono {α β : Type} {fv : Value} {Ra : bD → List Value → α → Prop} {rv : β → Value} {pm : α → Option β} (h : sf P fv μ Ra rv pm) (hs : bE μ μ0) : sf P fv μ0 Ra rv pm := by
  obtain ⟨f, first, caps, h1, h2, h3⟩ := h
  exact ⟨f, first, caps, h1, h2, fun W x vs r h => h3 W x vs r (hs.trans h)⟩
theorem ut {α β : Type} {K : Value → World → Prop} {fv : Value} {Ra : bD → List Value → α → Prop} {rv : β → Value} {pm : α → Option β} {fo : Operand} {ax : Array Operand} {ats : Array TypeId} (x : α) {vs : List Value} {r : β} (hST : ST false F w W μ L) (hc : sf P fv μ0 Ra rv pm) (hs : bE μ0 μ)
    (hR : Ra (hp W) vs x) (hf : aS E fo = fv) (ha : ax.map (aS E) ++ (#[] : Array Value) = vs.toArray) (hm : pm x = some r) (h : ∀ W', ST false F w W' μ L → K (rv r) W') : gG P E ⟨d, .call ⟨.value fo, ax, ats⟩, ty, pos, af, g⟩ W K := by
  obtain ⟨f, first, caps, rfl, h2, h3⟩ := hc
  have ha' : ax.map (aS E) = vs.toArray := by simpa using ha
  refine .inr (.inr ⟨f, (first.toList ++ (vs ++ caps.toList)).toArray, ?_, Calls.mono (h3 W x vs r (hs.trans hST.sub_hp) hR hm) (fun _ _ ⟨h4, h5⟩ => ⟨_, h4, h _ (hST.call0 h5)⟩)⟩)
  show (do let d ← resolve (aS E) ⟨.value fo, ax, ats⟩ ty; invoke d.target d.args : Sem Next).run P W = _
  simp only [resolve, hf, Deferred.ofValue, Sem.run_bind, Sem.run_pure, Result.andThen_ok, invoke, ha', h2]
  congr 2
  simp
end
section
variable {dd : Bool}
variable {β : Type} {Rl : jX β} {k : Nat} {μ : bD} {v : Value} {l : List β} {e : TypeId} {B : List (Nat × Obj)}
variable {F : Nat → Prop} {w W : World} {L : List (Nat × Obj)}
variable {P : Program} {E : Nat → Value} {d : Option Nat} {ty : TypeId} {pos : String} {af : Array Edge} {g : Option (Nat × Bool)}
theorem Ef {α : Type} {enc : α → List Value} (hk : ∀ x, (enc x).length = k) (hk0 : 0 < k) (hi : ∀ x y, enc x = enc y → x = y) : ∀ {l m : List α}, (l.map enc).flatten = (m.map enc).flatten → l = m
  | [], [], _ => rfl
  | [], b :: m, h => by
    have := congrArg List.length h
    simp only [List.map_nil, List.flatten_nil, List.length_nil, List.map_cons, List.flatten_cons, List.length_append, hk] at this
    omega
  | a :: l, [], h => by
    have := congrArg List.length h
    simp only [List.map_nil, List.flatten_nil, List.length_nil, List.map_cons, List.flatten_cons, List.length_append, hk] at this
    omega
  | a :: l, b :: m, h => by
    simp only [List.map_cons, List.flatten_cons] at h
    obtain ⟨h1, h2⟩ := List.append_inj h (by rw [hk, hk])
    rw [hi _ _ h1, Ef hk hk0 hi h2]
theorem KM (x y : sT k) (h : rj x = rj y) : x = y := Subtype.ext h
theorem bI.pre {v1 : Value} {cl cl1 : List (sT k)} (hk0 : 0 < k) (h : bI e rj k v cl B) (h1 : bI e rj k v1 cl1 B) (hl : cl1.length ≤ cl.length) : cl1 = cl.take cl1.length := by
  rcases h with ⟨rfl, rfl, rfl⟩ | ⟨g', cap, cur, rfl, rfl, q1, q2, q3, q4⟩
  · simp at hl; simp [hl]
  · rcases h1 with ⟨_, _, h⟩ | ⟨g1, cap1, cur1, rfl, eR, a1, a2, a3, a4⟩
    · cases h
    · cases eR
      refine Ef vw hk0 KM ?_
      rw [← a4]
      have hle : cl1.length * k ≤ cl.length * k := Nat.mul_le_mul_right _ hl
      have : cur.toList.take (cl1.length * k) = (cur.toList.take (cl.length * k)).take (cl1.length * k) := by rw [List.take_take, Nat.min_eq_left hle]
      rw [this, q4]
      have h2 : (cl.map rj).flatten = ((cl.take cl1.length).map rj).flatten ++ ((cl.drop cl1.length).map rj).flatten := by rw [← List.flatten_append, ← List.map_append, List.take_append_drop]
      have h3 : ((cl.take cl1.length).map rj).flatten.length = cl1.length * k := by rw [kV vw, List.length_take, Nat.min_eq_left hl]
      rw [h2, ← h3, List.take_left]
theorem kA.replicate {α β : Type} {Q : α → β → Prop} {a : α} {b : β} (h : Q a b) : ∀ n, kA Q (List.replicate n a) (List.replicate n b)
  | 0 => .nil
  | n + 1 => .cons h (kA.replicate h n)
theorem kA.clrT {α β : Type} {Q : α → β → Prop} {l : List α} {m : List β} (h : kA Q l m) {a : α} {b : β} (hq : Q a b) (i : Nat) : kA Q (iT l i a) (iT m i b) := by
  unfold iT
  rw [h.length]
  exact (h.take i).append (kA.replicate hq _)
theorem BH {t e' : TypeId} {x ih : Operand} {ik : IntKind} {i : Int} (ht : P.underlying t = some (.slice e')) (he : ∀ w, (sizeOf e').run P w = .ok k w) (hx : aS E x = v) (hi : aS E ih = .int ik i) (h : bG e Rl k μ v l B) (h0 : 0 ≤ i) (hl : i ≤ l.length) :
    ∃ v', bG e Rl k μ v' (l.take i.toNat) B ∧ ∀ W, dW P E ⟨d, .slice t x none (some ih) none, ty, pos, af, g⟩ W v' W := by
  obtain ⟨cl, h1, h2⟩ := h
  obtain ⟨v', h3, h4⟩ := yO (d := d) (ty := ty) (pos := pos) (af := af) (g := g) ht he hx hi h1 vw h0 (by rw [h2.length]; exact hl)
  exact ⟨v', ⟨_, h3, h2.take _⟩, h4⟩
theorem wx {t e' : TypeId} {x il : Operand} {ik : IntKind} {i : Int} (ht : P.underlying t = some (.slice e')) (he : ∀ w, (sizeOf e').run P w = .ok k w) (hx : aS E x = v) (hi : aS E il = .int ik i) (h : bG e Rl k μ v l B) (h0 : 0 ≤ i) (hl : i ≤ l.length) :
    ∃ u, vB k v i.toNat u ∧ ∀ W, dW P E ⟨d, .slice t x (some il) none none, ty, pos, af, g⟩ W u W := by
  obtain ⟨cl, h1, h2⟩ := h
  exact uT ht he hx hi h1 h0 (by rw [h2.length]; exact hl)
theorem FP {t e' : TypeId} {x : Operand} {u : Value} {i : Nat} (ht : P.underlying t = some (.slice e')) (hx : aS E x = u) (hu : vB k v i u) (h : bG e Rl k μ v l B) : dW P E ⟨d, .call ⟨.builtin .len, #[x], #[t]⟩, ty, pos, af, g⟩ W (.int .i64 ((l.length - i : Nat) : Int)) W := by
  obtain ⟨cl, h1, h2⟩ := h
  rw [← h2.length]
  exact CA ht hx hu h1
theorem wg {t e' : TypeId} {x ix : Operand} {ik : IntKind} {i : Int} {x0 : β} {u : Value} {o : Nat} {A : List Value → Prop} (ho : ∀ {ys}, Rl μ ys x0 → A ys)
    (ht : P.underlying t = some (.slice e')) (he : ∀ w, (sizeOf e').run P w = .ok k w) (hx : aS E x = u) (hi : aS E ix = .int ik i) (h : bG e Rl k μ v l B) (hu : vB k v o u) (h0 : 0 ≤ i) (hl : (l.drop o)[i.toNat]? = some x0) :
    ∃ p, (∃ ys, A ys ∧ At (xm B) p ys ∧ wl B k p (o + i.toNat)) ∧ ∀ W, dW P E ⟨d, .indexAddr t x ix, ty, pos, af, g⟩ W p W := by
  obtain ⟨cl, h1, h2⟩ := h
  obtain ⟨c, hc, hq⟩ := (h2.drop o).get hl
  obtain ⟨p, h3, h4⟩ := uQ (d := d) (ty := ty) (pos := pos) (af := af) (g := g) ht he hx hi h1 hu h0 hc
  exact ⟨p, ⟨c.1, ho hq, h3.at h1 vw (vU hc), h3⟩, h4⟩
theorem zm {K : Value → World → Prop} {z : β} {zs : List Value} {Y : List (Nat × Obj)} {t e' : TypeId} {x : Operand} {u zv : Value} {i : Nat} (hD : Deep Rl k) (hST : ST dd F w W μ (B ++ Y)) (h : bG e Rl k μ v l B) (hz0 : Rl μ zs z) (ht : P.underlying t = some (.slice e')) (hz : ∀ w, (zeroValue e').run P w = .ok zv w) (hu : vB k v i u) (hc : zv.cells = zs.toArray) (hx : aS E x = u)
    (hK : ∀ W' R', ST dd F w W' μ (R' ++ Y) → bG e Rl k μ v (iT l i z) R' → K (.tuple #[]) W') : gG P E ⟨d, .call ⟨.builtin .clear, #[x], #[t]⟩, ty, pos, af, g⟩ W K := by
  obtain ⟨cl, h1, h2⟩ := h
  exact xj (hD.cell hz0) hST h1 vw Hq ht hz hu hc hx (fun W' R' a1 a2 => hK W' R' a1 ⟨_, a2, h2.clrT hz0 i⟩)
end
section
variable {P : Program} {W : World} {E : Nat → Value} {d : Option Nat} {ty : TypeId} {pos : String} {af : Array Edge} {g : Option (Nat × Bool)}
theorem GO {tx tv : TypeId} {x y : Operand} {fv : Value} {s u : Array TypeId} {bb : Bool} (ht : P.underlying tx = some (.func s u bb)) (h : ∃ f a b, fv = .func f a b) (hx : aS E x = fv) (hy : aS E y = .nilFunc) :
    dW P E ⟨d, .binOp .neq tx x y tv, ty, pos, af, g⟩ W (.bool true) W := by
  obtain ⟨f, a, b, rfl⟩ := h
  show (do let r ← (do eqGuard .neq tx x y (aS E x) (aS E y); binOp .neq tx (aS E x) (aS E y)); pure (.value r) : Sem Next).run P W = _
  rw [hx, hy]
  have h0 := AE 9999 ht f a b W
  simp [eqGuard, binOp, Op.equal, show Op.maxDepth = 9999 + 1 from rfl, h0]
end
section
variable {P : Program} {n : Nat} {Q : mP} {E : Nat → Value} {W : World} {ops : Array Oper} {S : Array Bool → World → Prop} {fuel : Nat} {listed : Array Bool}
def Id (P : Program) (n : Nat) (ops : Array Oper) (Q : mP) (S : Array Bool → World → Prop) (fuel : Nat) (listed : Array Bool) (E : Nat → Value) (W : World) (k : Nat) : Prop :=
  ∃ q e, ops[k]? = some q ∧ nK n ops E q ∧ q.dst = some e ∧ e < n ∧ gG P E q W fun v W' => S (listed.setIfInBounds k true) W' ∧ PX P n ops Q S fuel (listed.setIfInBounds k true) (lR E e v) W'
theorem J4 (hr : Region.ready .any ops listed ≠ []) (h : ∀ k ∈ Region.ready .any ops listed, Id P n ops Q S fuel listed E W k) : PX P n ops Q S (fuel + 1) listed E W := fun hc a ha => by
  refine ⟨fun h0 => (hr h0).elim, fun k hk => ?_⟩
  obtain ⟨q, e, h1, hw, hd, hn, h⟩ := h k hk
  unfold wpOp
  simp only [h1]
  rw [if_pos (hw.of ha)]
  refine .inl ?_
  unfold Oper.wp
  rw [ha.eval]
  rcases h with ⟨v, W', h1, h2⟩ | ⟨W', h1, h2⟩ | ⟨f, args, h1, h2⟩
  · rw [h1, Oper.upon_value]; exact ⟨h2.1, by rw [hd]; exact h2.2 (hc.set hk) _ (ha.put hn v)⟩
  · rw [h1, Oper.upon_skip]; exact ⟨h2.1, by rw [hd]; exact h2.2 (hc.set hk) _ (ha.put hn _)⟩
  · rw [h1, Oper.upon_enter]
    refine Calls.mono h2 ?_
    rintro e w' ⟨v, rfl, hl⟩
    exact ⟨hl.1, by simp only [hd]; exact hl.2 (hc.set hk) _ (ha.put hn v)⟩
theorem we (i j m : Nat) (hr : Region.ready .any ops listed = [i, j, m]) (h1 : Id P n ops Q S fuel listed E W i) (h2 : Id P n ops Q S fuel listed E W j) (h3 : Id P n ops Q S fuel listed E W m) : PX P n ops Q S (fuel + 1) listed E W :=
  J4 (by rw [hr]; simp) (by rw [hr]; intro k hk; simp only [List.mem_cons, List.not_mem_nil, or_false] at hk; rcases hk with rfl | rfl | rfl <;> assumption)
end
end Go.Proofs.YtmlncblocfcmiaaGreat
namespace Go.Proofs.YtmlncblocfcmiaaGreat
open Go.RowKit
theorem bS {α β : Type} {m : Option α} {f : α → Option β} {r : β} {G : Prop} (h : m.bind f = some r) (k : ∀ x, m = some x → f x = some r → G) : G :=
  let ⟨x, a, b⟩ := bind_some h
  k x a b
theorem sj {α : Type} {a b : α} (h : some a = some b) : a = b := Option.some.inj h
theorem bC {α : Type} {b : Bool} {x y r : α} {G : Prop} (h : (if b = true then x else y) = r) (k1 : b = true → x = r → G) (k2 : b = false → y = r → G) : G := by
  rcases Fy b with e | e
  · exact k1 e (Jr e h)
  · exact k2 e (J7 e h)
theorem cB {a b : Bool} (h : a = b) : Value.bool a = Value.bool b := congrArg Value.bool h
theorem nb {a b : Nat} (h : Nat.ble a b = true := by exact rfl) : a ≤ b := Nat.le_of_ble_eq_true h
def KA : Nat → Nat → List Bool
  | 0, _ => []
  | n + 1, m => (m % 2 == 1) :: KA n (m / 2)
def bm (n m : Nat) : Array Bool := (KA n m).toArray
section
variable {P : Program} {n : Nat} {Q : mP} {E : Nat → Value} {W : World}
theorem CI {α : Type} {co : Operand} {b : Bool} {x y : Code} {A B r : α} (hm : (if b = true then A else B) = r) (hc : aS E co = .bool b) (ht : b = true → A = r → CW P n x Q E W) (hf : b = false → B = r → CW P n y Q E W) : CW P n (.cond co x y) Q E W :=
  Fv hc (fun e => ht e (Jr e hm)) (fun e => hf e (J7 e hm))
theorem CJ {σ ρ : Type} {m : Option σ} {k : σ → Option ρ} {r : ρ} {x : Code} {K : (Nat → Value) → World → Prop} (hm : m.bind k = some r) (I : σ → (Nat → Value) → World → Prop)
    (h1 : ∀ s, m = some s → CW P n x (uH (I s) Q) E W) (h2 : ∀ s E W, I s E W → k s = some r → K E W) : CW P n x (uH K Q) E W :=
  let ⟨s, a, b⟩ := bind_some hm
  GL (I s) (h1 s a) (fun E W h => h2 s E W h b)
theorem Ib {σ ρ ρ' : Type} {m : Option (ρ' ⊕ σ)} {k : ρ' ⊕ σ → Option ρ} {r : ρ} {x : Code} {K : (Nat → Value) → World → Prop} (hm : m.bind k = some r) (I : σ → (Nat → Value) → World → Prop)
    (h1 : ∀ s, m = some s → k s = some r → CW P n x (uH (fun E W => ∃ t, s = .inr t ∧ I t E W) Q) E W) (h2 : ∀ s E W, I s E W → k (.inr s) = some r → K E W) : CW P n x (uH K Q) E W :=
  let ⟨s, a, b⟩ := bind_some hm
  GL (fun E W => ∃ t, s = .inr t ∧ I t E W) (h1 s a b) (fun E W ⟨t, e, h⟩ => h2 t E W h (by subst e; exact b))
theorem LJ {σ ρ : Type} {m : Option σ} {k : σ → Option ρ} {r : ρ} {ops : Array Oper} {rest : List Oper} (hm : m.bind k = some r) (I : σ → (Nat → Value) → World → Prop) (j : Nat)
    (h2 : ∀ s E W, I s E W → k s = some r → LW P n ops Q (rest.drop j) E W) (h1 : ∀ s, m = some s → (∀ E W, I s E W → LW P n ops Q (rest.drop j) E W) → LW P n ops Q rest E W) : LW P n ops Q rest E W :=
  let ⟨s, a, b⟩ := bind_some hm
  h1 s a (fun E W h => h2 s E W h b)
theorem PJ {σ ρ : Type} {m : Option σ} {k : σ → Option ρ} {r : ρ} {ops : Array Oper} {S : Array Bool → World → Prop} {fuel : Nat} {listed : Array Bool} (hm : m.bind k = some r) (I : σ → (Nat → Value) → World → Prop) (l' : Array Bool) (f' : Nat)
    (h2 : ∀ s E W, I s E W → k s = some r → PX P n ops Q S f' l' E W) (h1 : ∀ s, m = some s → (∀ E W, I s E W → PX P n ops Q S f' l' E W) → PX P n ops Q S fuel listed E W) : PX P n ops Q S fuel listed E W :=
  let ⟨s, a, b⟩ := bind_some hm
  h1 s a (fun E W h => h2 s E W h b)
theorem cF (n : Nat) {f : FuncId} {fn : Func} {c : Code} {args : List Value} {w : World} {R : Ending → World → Prop} (hfn : P.funcs[f]? = some fn) (hb : fn.body = some c) (h : CW P n c (wX P fn R) (Di args) w)
    (hn : fn.ntmps = n := by exact rfl) (hl : args.length ≤ n := by exact nb) : Calls P f args.toArray w R := EA hfn hb hn hl h
end
section
variable {dd : Bool} {P : Program} {fn : Func} {E : Nat → Value} {W w : World} {μ : bD} {L : List (Nat × Obj)}
theorem rP {t : Tmp} {v : Value} (hST : ST dd dC w W μ L) (hr : fn.results = #[.tmp t] := by exact rfl) (hv : E t = v := by exact rfl) : wX P fn (fun e W' => e = .returned v ∧ Ex dd w W') .ret E W := eA hr hv ⟨rfl, hST.ex⟩
end
theorem ST.row1 {dd : Bool} {F : Nat → Prop} {w W : World} {μ : bD} {x : Nat × Obj} {L : List (Nat × Obj)} (h : ST dd F w W μ (x :: L)) : ST dd F w W μ ([x] ++ L) := h
theorem ST.row0 {dd : Bool} {F : Nat → Prop} {w W : World} {μ : bD} {L : List (Nat × Obj)} (h : ST dd F w W μ L) : ST dd F w W μ ([] ++ L) := h
theorem aL {E : Nat → Value} {ax : Array Operand} {l : List Value} (h : ax.toList.map (aS E) = l) : ax.map (aS E) ++ (#[] : Array Value) = l.toArray := by subst h; apply Array.ext'; simp
section
variable {dd : Bool}
variable {P : Program} {E : Nat → Value} {W : World} {d : Option Nat} {ty : TypeId} {pos : String} {af : Array Edge} {g : Option (Nat × Bool)}
  {F : Nat → Prop} {w : World} {μ : bD} {L : List (Nat × Obj)}
variable {f : FuncId} {fv : Operand} {ax : Array Operand} {ats : Array TypeId} {args : List Value} {v : Value} {K : Value → World → Prop}
theorem Eg (hST : ST dd F w W μ L) (he : ∀ args w, (callFunc f args).run P w = .ok (.enter f args) w) (hc : bO dd P f args W v) (h : ∀ W', ST dd F w W' μ L → K v W')
    (hf : aS E fv = .func (.func f) #[] #[] := by exact rfl) (ha : ax.toList.map (aS E) = args := by exact rfl) : gG P E ⟨d, .call ⟨.value fv, ax, ats⟩, ty, pos, af, g⟩ W K := EV hST hf he (aL ha) hc h
theorem sZ {α : Type} {e : TypeId} {enc : α → List Value} {k : Nat} {l : List α} {Y : List (Nat × Obj)} (hST : ST dd F w W μ Y) (he : ∀ args w, (callFunc f args).run P w = .ok (.enter f args) w) (hc : gQ dd P f args W e enc k l)
    (h : ∀ W' v μ' R, ST dd F w W' μ' (R ++ Y) → bE μ μ' → Lo F w μ μ' → bI e enc k v l R → K v W')
    (hf : aS E fv = .func (.func f) #[] #[] := by exact rfl) (ha : ax.toList.map (aS E) = args := by exact rfl) : gG P E ⟨d, .call ⟨.value fv, ax, ats⟩, ty, pos, af, g⟩ W K := Fm _ hST hf he (aL ha) hc h
theorem mL {K' : Value → List (Nat × Obj) → World → Prop} {L0 L2 : List (Nat × Obj)} (hST : ST dd F w W μ L) (hL : L.Perm (L0 ++ L2)) (he : ∀ args w, (callFunc f args).run P w = .ok (.enter f args) w)
    (hc : yV L0 W → (L0.map (·.1)).Nodup → bE μ (rp W L0) → (∀ b o, (b, o) ∈ L2 → rp W L0 b = some o) → eB dd P f args W L0 K')
    (h : ∀ W' v μ' L1, ST dd F w W' μ' (L1 ++ L2) → bE μ μ' → Lo F w μ μ' → (∀ b, W.heap.size ≤ b → ∀ o, rp W' L1 b = some o → μ' b = some o) → K' v L1 W' → K v W')
    (hf : aS E fv = .func (.func f) #[] #[] := by exact rfl) (ha : ax.toList.map (aS E) = args := by exact rfl) : gG P E ⟨d, .call ⟨.value fv, ax, ats⟩, ty, pos, af, g⟩ W K :=
  IB L0 L2 hST hL hf he (aL ha) (fun a b c d => by have := hc a b c d; simpa using this) h
theorem lT {K' : Value → List (Nat × Obj) → bD → Prop} {L0 L2 : List (Nat × Obj)} (hST : ST dd F w W μ L) (hL : L.Perm (L0 ++ L2)) (he : ∀ args w, (callFunc f args).run P w = .ok (.enter f args) w)
    (hc : yV L0 W → (L0.map (·.1)).Nodup → bE μ (rp W L0) → (∀ b o, (b, o) ∈ L2 → rp W L0 b = some o) → eS dd P f args W μ L0 K')
    (h : ∀ W' v μ' L1, ST dd F w W' μ' (L1 ++ L2) → bE μ μ' → Lo F w μ μ' → K' v L1 μ' → K v W')
    (hf : aS E fv = .func (.func f) #[] #[] := by exact rfl) (ha : ax.toList.map (aS E) = args := by exact rfl) : gG P E ⟨d, .call ⟨.value fv, ax, ats⟩, ty, pos, af, g⟩ W K :=
  HK L0 L2 hST hL hf he (aL ha) (fun a b c d => by have := hc a b c d; simpa using this) h
end
section
variable {E : Nat → Value} {x1 x2 x3 x4 x5 x6 x7 x8 : Operand} {v1 v2 v3 v4 v5 v6 v7 v8 : Value}
theorem Le (h1 : aS E x1 = v1) : [x1].map (aS E) = [v1] := by rw [← h1]; rfl
end
end Go.Proofs.YtmlncblocfcmiaaGreat
namespace Go.Proofs.YtmlncblocfcmiaaGreat
open Go.RowKit
def KU (R : List (Nat × Obj)) (k : Nat) (p : Value) (i fo : Nat) : Prop := ∃ g o, R = [(g, o)] ∧ p = .pointer (some ⟨g, i * k + fo, none⟩)
theorem wl.f {R : List (Nat × Obj)} {k : Nat} {p : Value} {i : Nat} (h : wl R k p i) : KU R k p i 0 := h
section
variable {P : Program} {E : Nat → Value} {W : World} {d : Option Nat} {ty : TypeId} {pos : String} {af : Array Edge} {g : Option (Nat × Bool)}
  {dd : Bool} {F : Nat → Prop} {w : World} {μ : bD} {L : List (Nat × Obj)} {α : Type} {e' : TypeId} {enc : α → List Value} {k : Nat} {v : Value} {l : List α} {R : List (Nat × Obj)}
theorem bI.put (h : bI e' enc k v l R) (hk : ∀ x, (enc x).length = k) {p : Value} {i : Nat} (hp : wl R k p i) {x0 : α} (hl : l[i]? = some x0) (x1 : α) :
    ∃ g cur, R = [(g, .cells cur e' (0, 0))] ∧ p = .pointer (some ⟨g, i * k, none⟩) ∧ i * k + k ≤ cur.size ∧ (∀ j y, (enc x0)[j]? = some y → cur[i * k + j]? = some y) ∧
      bI e' enc k v (l.set i x1) [(g, .cells (cur.toList.take (i * k) ++ enc x1 ++ cur.toList.drop (i * k + k)).toArray e' (0, 0))] := by
  have hlt : i < l.length := (List.getElem?_eq_some_iff.1 hl).1
  obtain ⟨g', cur, cap, rfl, rfl, h2, h3, h4, h5, rfl, h6⟩ := wu h hk hp hl
  have hle : i * k + k ≤ cap * k := by
    have : (i + 1) * k ≤ cap * k := Nat.mul_le_mul_right _ (by omega)
    rwa [Nat.add_mul, Nat.one_mul] at this
  have hle2 : i * k + k ≤ l.length * k := by
    have : (i + 1) * k ≤ l.length * k := Nat.mul_le_mul_right _ (by omega)
    rwa [Nat.add_mul, Nat.one_mul] at this
  have hlen : l.length * k ≤ cap * k := Nat.mul_le_mul_right _ h2
  refine ⟨g', cur, rfl, rfl, by rw [h4]; exact hle, h6, .inr ⟨g', cap, _, by simp, rfl, by simpa using h2, h3, ?_, ?_⟩⟩
  · show ((cur.toList.take (i * k) ++ (enc x1) ++ cur.toList.drop (i * k + k)).toArray).size = _
    have e0 : cur.toList.length = cap * k := by simpa using h4
    rw [List.size_toArray, List.length_append, List.length_append, List.length_take, List.length_drop, hk, e0, Nat.min_eq_left (by omega)]; omega
  · rw [List.length_set, AO hk l i x1 hlt, ← h5]
    have e1 : (cur.toList.take (l.length * k)).take (i * k) = cur.toList.take (i * k) := by rw [List.take_take]; congr 1; omega
    have e2 : (cur.toList.take (l.length * k)).drop (i * k + k) = (cur.toList.drop (i * k + k)).take (l.length * k - (i * k + k)) := by rw [List.drop_take]
    rw [e1, e2]
    show List.take (l.length * k) (cur.toList.take (i * k) ++ enc x1 ++ cur.toList.drop (i * k + k)) = _
    have e0 : cur.toList.length = cap * k := by simpa using h4
    have e3 : (cur.toList.take (i * k) ++ enc x1).length = i * k + k := by rw [List.length_append, List.length_take, hk, e0, Nat.min_eq_left (by omega)]
    rw [List.take_append, List.take_of_length_le (by rw [e3]; exact hle2), e3]
end
end Go.Proofs.YtmlncblocfcmiaaGreat
namespace Go.Proofs.YtmlncblocfcmiaaGreat
open Go.Sort Go.Proofs Go.Shelf
theorem AK {g b : Nat} {o : Obj} : keys [(g, o)] b ↔ b = g := by
  constructor
  · rintro ⟨o', h⟩
    simp at h
    exact h.1
  · rintro rfl; exact ⟨o, by simp⟩
theorem xo (w : World) (g m : Nat) (f : Array Value → Array Value) (os : Array Obj) (b : Nat) (hb : b < w.heap.size) :
    (Go.Sort.grow (mapBlock (Go.Sort.ahead w m) g f) os).heap[b]? = if g = b then w.heap[b]?.map (onCells f) else w.heap[b]? := by
  have hb' : b < (mapBlock (Go.Sort.ahead w m) g f).heap.size := by simp only [mapBlock, Go.Sort.ahead, Array.size_modify]; exact hb
  rw [heap_grow_old _ _ hb']
  simp only [mapBlock, Go.Sort.ahead, Array.getElem?_modify]
theorem EJ {w : World} {g m : Nat} {f : Array Value → Array Value} {os : Array Obj} {cs : Array Value} {T : TypeId} {fr : Nat × Nat} (hg : w.heap[g]? = some (.cells cs T fr)) :
    rc true [(g, .cells cs T fr)] [(g, .cells (f cs) T fr)] w (Go.Sort.grow (mapBlock (Go.Sort.ahead w m) g f) os) := by
  have hlt : g < w.heap.size := (Array.getElem?_eq_some_iff.1 hg).1
  refine ⟨⟨rfl, rfl, rfl, ?_, ?_, fun b hb hn => ?_⟩, fun b o h => ?_, by simp⟩
  · refine pM.of ?_
    show w.drawn ≤ w.drawn + m
    omega
  · show w.heap.size ≤ (w.heap.modify g (onCells f) ++ os).size
    simp
  · rw [xo _ _ _ _ _ _ hb, if_neg fun h => hn (AK.2 h.symm)]
  · simp only [List.mem_cons, List.not_mem_nil, or_false, Prod.mk.injEq] at h
    obtain ⟨rfl, rfl⟩ := h
    refine ⟨?_, .inr (AK.2 rfl)⟩
    rw [xo _ _ _ _ _ _ hlt, if_pos rfl, hg]
    rfl
theorem Fx {w W : World} (h : Ex true w W) : ∃ q os, W = Go.Sort.grow (w.drewN q) os := by
  refine ⟨W.drawn - w.drawn, W.heap.extract w.heap.size W.heap.size, ?_⟩
  have hh : W.heap = w.heap ++ W.heap.extract w.heap.size W.heap.size := by
    apply Array.ext_getElem?
    intro i
    rw [Array.getElem?_append]
    split
    · rename_i hi; exact h.old i hi
    · rename_i hi
      rw [Array.getElem?_extract]
      have hsz := h.size
      split
      · rw [show w.heap.size + (i - w.heap.size) = i by omega]
      · exact Array.getElem?_eq_none (by omega)
  obtain ⟨h1, h2, h3, h4, h5⟩ := W
  have e1 := h.os; have e2 := h.tape; have e3 := h.output; have e4 := h.drawn rfl
  simp only at e1 e2 e3 e4 hh
  unfold Go.Sort.grow World.drewN
  simp only [World.mk.injEq]
  exact ⟨hh, e2, by omega, e1, e3⟩
theorem EZ {α : Type} [Inhabited α] {enc : α → List Value} {k : Nat} (hk : ∀ x, (enc x).length = k) (l : List α) (j : Nat) (hj : j < l.length * k) :
    (l.map enc).flatten[j]? = some ((flatK enc k l.toArray)[j]!) := by
  have k0 : 0 < k := by
    cases k with
    | zero => simp at hj
    | succ n => omega
  have h1 : j / k < l.length := (Nat.div_lt_iff_lt_mul k0).2 hj
  rw [get_flatK _ _ _ _ (by simpa using hj)]
  have e1 : l.toArray[j / k]! = l[j / k] := by
    rw [getElem!_pos l.toArray (j / k) (by simpa using h1)]; simp
  rw [e1]
  have h2 : j % k < (enc l[j / k]).length := by rw [hk]; exact Nat.mod_lt _ k0
  have h3 := sx hk l (j / k) l[j / k] (List.getElem?_eq_getElem h1) (j % k) ((enc l[j / k])[j % k]) (List.getElem?_eq_getElem h2)
  rw [Nat.div_add_mod' j k] at h3
  rw [h3, getElem!_pos (enc l[j / k]) (j % k) h2]
theorem CX {α : Type} [Inhabited α] {enc : α → List Value} {k : Nat} (hk : ∀ x, (enc x).length = k) {w : World} {g : Nat} {cs : Array Value} {T : TypeId} (hg : w.heap[g]? = some (.cells cs T (0, 0))) (l : List α)
    (ht : cs.toList.take (l.length * k) = (l.map enc).flatten) : HoldsK enc k w g 0 l.toArray := by
  intro j hj
  have hj' : j < l.length * k := by simpa using hj
  have h1 := EZ hk l j hj'
  rw [← ht, List.getElem?_take, if_pos hj'] at h1
  refine ⟨?_, ?_⟩
  · simp only [World.cell?, hg, Nat.zero_add]
    simpa using h1
  · simp [World.frozen?, hg]
theorem EL {α : Type} [Inhabited α] {enc : α → List Value} {k : Nat} (hk : ∀ x, (enc x).length = k) {cs : Array Value} (l : List α) (hs : l.length * k ≤ cs.size) :
    (putCells id 0 (flatK enc k l.toArray) cs).toList.take (l.length * k) = (l.map enc).flatten := by
  apply List.ext_getElem?
  intro j
  rw [List.getElem?_take]
  split
  · rename_i hj
    rw [EZ hk l j hj]
    simp only [putCells, Array.getElem?_toList, Array.getElem?_mapIdx, size_flatK, List.size_toArray]
    rw [Array.getElem?_eq_getElem (by omega)]
    simp [hj]
  · rename_i hj
    rw [List.getElem?_eq_none (by rw [kV hk]; omega)]
theorem Dg (enc : Value → Value) (o : Nat) (d : Array Value) (c : Array Value) : (putCells enc o d c).size = c.size := by simp [putCells]
section
variable {α : Type} {P : Program} {ρ : Ren}
theorem JJ {l : List α} {cf : α × α → Option Int} (h : zg cf l) : SWO (ltOf fun (x y : {x // x ∈ l}) => (cf (x.1, y.1)).getD 0) ∧
    (∀ x y : {x // x ∈ l}, ltOf (fun (x y : {x // x ∈ l}) => (cf (x.1, y.1)).getD 0) x y = qB cf x.1 y.1) := by
  have e : ∀ x y : {x // x ∈ l}, ltOf (fun (x y : {x // x ∈ l}) => (cf (x.1, y.1)).getD 0) x y = qB cf x.1 y.1 := fun x y => by
    obtain ⟨c, hc⟩ := h.is x.1 x.2 y.1 y.2
    simp [ltOf, qB, hc]
  refine ⟨⟨fun x => ?_, fun x y z => ?_, fun x y z => ?_⟩, e⟩
  · rw [e]; exact h.irrefl _ x.2
  · rw [e, e, e]; exact h.trans _ x.2 _ y.2 _ z.2
  · rw [e, e, e]
    intro h1 h2
    cases h3 : qB cf x.1 z.1 with
    | false => rfl
    | true =>
      cases h4 : qB cf y.1 x.1 with
      | true =>
        have := h.trans _ y.2 _ x.2 _ z.2 h4 h3
        rw [h2] at this; cases this
      | false =>
        have := h.total _ x.2 _ y.2 h1 h4
        rw [this, h2] at h3; cases h3
theorem ED (L : SlLaysF0.n6 P ρ) (k : Nat) (aE : ∀ w, (isAgg (ρ.t 24)).run P w = .ok true w) (zE : ∀ w, (Go.sizeOf (ρ.t 24)).run P w = .ok k w) {e : TypeId} (enc : α → List Value) (hk : ∀ x, (enc x).length = k) (h1 : ∀ x, ∀ u ∈ enc x, u.oneCell' = true)
    {v fv : Value} {l r : List α} {R : List (Nat × Obj)} {cf : α × α → Option Int} {w : World} {μ0 : bD} (hH : yV (R ++ []) w) (hS0 : bE μ0 (rp w (R ++ []))) (hr : bI e enc k v l R)
    (hc : Kz P fv μ0 (fun (x : α × α) => [(.agg (enc x.1).toArray), (.agg (enc x.2).toArray)]) (fun (r : Int) => (.int .i64 r)) cf) (hm : uR cf l = some r) :
    eB true P (ρ.f 6) [v, fv] w (R ++ []) (fun u L1 _ => ∃ (S : List (Nat × Obj)), u = (.tuple #[]) ∧ L1 = (S ++ []) ∧ bI e enc k v r S) := by
  obtain ⟨ok, rfl⟩ := BI hm
  rw [List.append_nil] at hH hS0 ⊢
  rcases Nat.eq_zero_or_pos l.length with h0 | hpos
  · have hl : l = [] := List.eq_nil_of_length_eq_zero h0
    subst hl
    have hs : oZ cf ([] : List α) = [] := by simp [oZ]
    rw [hs]
    obtain ⟨p, c, rfl⟩ : ∃ p c, v = .slice p 0 c := by
      rcases hr with ⟨rfl, _, _⟩ | ⟨g, cap, cur, rfl, _⟩
      · exact ⟨_, _, rfl⟩
      · exact ⟨_, _, rfl⟩
    refine Calls.mono (AnyF.slices_SortFunc_none L p c fv w) fun x w' ⟨hx, hw⟩ => ?_
    subst hx hw
    refine ⟨_, R, rfl, ⟨⟨rfl, rfl, rfl, pM.of (Nat.le_refl _), Nat.le_refl _, fun _ _ _ => rfl⟩, fun b o h => ⟨hH b o h, .inr ⟨o, h⟩⟩, ?_⟩, R, rfl, (List.append_nil R).symm, hr⟩
    rcases hr with ⟨_, _, rfl⟩ | ⟨g, cap, cur, _, rfl, _⟩ <;> simp
  · rcases hr with ⟨_, rfl, _⟩ | ⟨g, cap, cur, rfl, rfl, hlc, hcm, hcs, htk⟩
    · simp at hpos
    have hg : w.heap[g]? = some (.cells cur e (0, 0)) := hH g _ (by simp)
    have hlt : g < w.heap.size := (Array.getElem?_eq_some_iff.1 hg).1
    haveI : Inhabited {x // x ∈ l} := ⟨⟨l[0], List.getElem_mem hpos⟩⟩
    obtain ⟨gg, caps, rfl, hent, hgive⟩ := hc
    obtain ⟨hO, hlo⟩ := JJ ok
    have hal : l.attach.toArray.size = l.length := by simp
    have hmv : l.attach.map (fun x => enc x.1) = l.map enc := by
      rw [show (fun x : {x // x ∈ l} => enc x.1) = enc ∘ Subtype.val from rfl, ← List.map_map, List.attach_map_subtype_val]
    have hH2 : HoldsK (fun x : {x // x ∈ l} => enc x.1) k w g 0 l.attach.toArray := CX (fun x => hk x.1) hg l.attach (by rw [hmv, List.length_attach, htk])
    have hcmp : CmpLays P gg caps (fun x : {x // x ∈ l} => enc x.1) k (fun x y => (cf (x.1, y.1)).getD 0) g 0 l.attach.toArray.size w := by
      intro m os dk hdk x y
      obtain ⟨c, hcc⟩ := ok.is x.1 x.2 y.1 y.2
      have hsub : bE μ0 (hp (sortWorldK (fun x : {x // x ∈ l} => enc x.1) k w g 0 m dk os)) := fun b o hb => by
        have h2 := hS0 b o hb
        unfold rp at h2
        split at h2
        · cases h2
        · rename_i hn
          have hbl : b < w.heap.size := (Array.getElem?_eq_some_iff.1 h2).1
          show (Go.Sort.grow (mapBlock (Go.Sort.ahead w m) g _) os).heap[b]? = _
          rw [xo _ _ _ _ _ _ hbl, if_neg fun h => hn (AK.2 h.symm)]
          exact h2
      have h3 := hgive (sortWorldK (fun x : {x // x ∈ l} => enc x.1) k w g 0 m dk os) (x.1, y.1) c hsub hcc
      have ea : ([Value.agg (enc x.1).toArray, Value.agg (enc y.1).toArray] ++ caps.toList).toArray = #[Value.agg (enc x.1).toArray, Value.agg (enc y.1).toArray] ++ caps := by
        apply Array.ext'; simp
      rw [← ea]
      exact Calls.mono h3 fun u W' hu => ⟨by rw [hu.1]; show _ = Ending.returned (.int .i64 ((cf (x.1, y.1)).getD 0)); rw [hcc]; rfl, Fx hu.2⟩
    have hT : ∀ x y : {x // x ∈ l}, ltOf (fun (x y : {x // x ∈ l}) => (cf (x.1, y.1)).getD 0) x y = false → ltOf (fun (x y : {x // x ∈ l}) => (cf (x.1, y.1)).getD 0) y x = false → x = y := fun x y a b => by
      rw [hlo] at a b
      exact Subtype.ext (ok.total _ x.2 _ y.2 a b)
    have hmain := AnyQ.slices_SortFunc_total L k aE zE (fun x : {x // x ∈ l} => enc x.1) (fun x => hk x.1) (fun x => h1 x.1) (fun x y => (cf (x.1, y.1)).getD 0) hO gg caps g 0 cap l.attach.toArray w hent hcmp hH2 hlt (by rw [hal]; exact ok.short) hT
    rw [hal] at hmain
    refine Calls.mono hmain fun u w' ⟨hu, n, os, hw⟩ => ?_
    subst hu
    generalize hs : l.attach.toArray.toList.mergeSort (fun x y => !ltOf (fun (x y : {x // x ∈ l}) => (cf (x.1, y.1)).getD 0) y x) = s at hw
    have hsm : s.map Subtype.val = oZ cf l := by
      rw [← hs, List.map_mergeSort (s := fun x y => !qB cf y x) (fun a _ b _ => by rw [hlo])]
      simp [oZ]
    have hsl : s.length = l.length := by rw [← hs, List.length_mergeSort]; simp
    have hrl : (oZ cf l).length = l.length := by simp [oZ, List.length_mergeSort]
    have hbk := EJ (w := w) (m := n) (f := putCells id 0 (flatK (fun x : {x // x ∈ l} => enc x.1) k s.toArray)) (os := os) hg
    have hw2 : w' = Go.Sort.grow (mapBlock (Go.Sort.ahead w n) g (putCells id 0 (flatK (fun x : {x // x ∈ l} => enc x.1) k s.toArray))) os := hw
    rw [← hw2] at hbk
    refine ⟨_, _, rfl, hbk, _, rfl, (List.append_nil _).symm, .inr ⟨g, cap, _, by rw [hrl], rfl, by omega, hcm, by rw [Dg, hcs], ?_⟩⟩
    rw [hrl, ← hsl, EL (fun x => hk x.1) s (by rw [hsl, hcs]; exact Nat.mul_le_mul_right k hlc), ← hsm, List.map_map]
    rfl
end
end Go.Proofs.YtmlncblocfcmiaaGreat
namespace Go.Proofs.YtmlncblocfcmiaaGreat
open Go.Sort Go.Proofs Go.Shelf
theorem zx (b : ByteArray) : b.toList = b.data.toList := by rw [ByteArray.toList_eq]
theorem Jj (l : List ByteArray) : (l.map xZ).flatten = l.map Value.string := by
  induction l with
  | nil => rfl
  | cons x l ih => simp only [List.map_cons, List.flatten_cons, ih]; rfl
theorem HH (l : List ByteArray) : (qL l).map (fun b => b.data.toList) = (l.map (fun b => b.data.toList)).mergeSort (fun x y => decide (x ≤ y)) := by
  unfold qL
  refine List.map_mergeSort fun a _ b _ => ?_
  unfold lS
  rw [bytesLess_eq, zx, zx]
  by_cases h : a.data.toList ≤ b.data.toList
  · have h' : ¬ b.data.toList < a.data.toList := List.not_lt.2 h
    simp [h, h']
  · have h' : b.data.toList < a.data.toList := by
      cases Decidable.em (b.data.toList < a.data.toList) with
      | inl h2 => exact h2
      | inr h2 => exact absurd (List.not_lt.1 h2) h
    simp [h, h']
end Go.Proofs.YtmlncblocfcmiaaGreat
namespace Go.Proofs.YtmlncblocfcmiaaGreat
open Go.WideElems Go.WideShapes Go.Sort Go.Proofs Go.Shelf
theorem EI {β : Type} {vf : β → Value} {P : Program} {kt : TypeId} (ht : P.underlying kt = some .string) {l : List (ByteArray × β)} {es : Array MapEntry} {clock : Nat} (h : qH Value.string vf l es clock) (hn : (l.map (·.1)).Nodup) (hs : ∀ p ∈ l, p.1.size ≤ maxLen) (hl : l.length ≤ maxLen)
    {W : World} {b : Nat} (hb : W.heap[b]? = some (.map es clock)) : ∃ D : DataW Unit, W.ownsMap P kt (fun _ => some (.lit (.bool true), [])) b es.size D ∧ (strKeys D).Perm (l.map (fun p => p.1.data.toList)) ∧ Maps.size D = l.length := by
  have hkeys := h.keys
  have hrd : ∀ x ∈ es.toList, ∃ s : ByteArray, x.key = .string s ∧ s.size ≤ maxLen := fun x hx => by
    have h1 : x.key ∈ es.toList.map (·.key) := List.mem_map.2 ⟨x, hx, rfl⟩
    rw [hkeys] at h1
    obtain ⟨s, h2, h3⟩ := List.mem_map.1 h1
    obtain ⟨p, h4, h5⟩ := List.mem_map.1 h2
    exact ⟨s, h3.symm, by rw [← h5]; exact hs p h4⟩
  have hrd2 : ∀ x ∈ es.toList, ∃ s : ByteArray, x.key = .string s ∧ Go.WideElems.rd (H := Unit) P kt (fun _ => some (.lit (.bool true), [])) x = some (.string s.data.toList, .lit (.bool true)) := fun x hx => by
    obtain ⟨s, h1, h2⟩ := hrd x hx
    refine ⟨s, h1, ?_⟩
    simp [Go.WideElems.rd, keyOf, ht, mapKey, h1, h2]
  refine ⟨_, ⟨es, clock, hb, ⟨by rw [h.length]; exact hl, ⟨h.lt, ?_, ?_⟩, fun x hx => ?_⟩, Nat.le_refl _, rfl⟩, ?_, ?_⟩
  · have := h.born
    rw [List.Nodup, List.pairwise_map]
    exact this.imp (fun {a b} h => by omega)
  · rw [hkeys]
    rw [List.Nodup, List.pairwise_map]
    exact hn.imp (fun {a b} hab e => hab (by injection e))
  · obtain ⟨s, _, h2⟩ := hrd2 x hx
    exact ⟨_, h2⟩
  · have h1 := (sorted_perm (es.toList.map (Go.WideElems.rg (H := Unit) P kt (fun _ => some (.lit (.bool true), []))))).map (fun p => strOf p.1)
    refine List.Perm.trans h1 ?_
    have e : (es.toList.map (Go.WideElems.rg (H := Unit) P kt (fun _ => some (.lit (.bool true), [])))).map (fun p => strOf p.1) = l.map (fun p => p.1.data.toList) := by
      have e1 : (es.toList.map (Go.WideElems.rg (H := Unit) P kt (fun _ => some (.lit (.bool true), [])))).map (fun p => strOf p.1) = (es.toList.map (·.key)).map (fun v => match v with | .string s => s.data.toList | _ => []) := by
        rw [List.map_map, List.map_map]
        refine List.map_congr_left fun x hx => ?_
        obtain ⟨s, h2, h3⟩ := hrd2 x hx
        simp [Go.WideElems.rg, h3, h2, strOf]
      rw [e1, hkeys, List.map_map, List.map_map]
      rfl
    rw [e]
  · have h1 := (sorted_perm (es.toList.map (Go.WideElems.rg (H := Unit) P kt (fun _ => some (.lit (.bool true), []))))).length_eq
    show (List.foldr DataW.insert [] _).length = _
    rw [h1, List.length_map, ← h.length]
    simp
theorem De {l : List ByteArray} {ss : List (List UInt8)} (h : ss.Perm (l.map fun b => b.data.toList)) : ss.mergeSort (fun x y => decide (x ≤ y)) = (qL l).map (fun b => b.data.toList) := by
  rw [HH]
  have le : ∀ a b c : List UInt8, decide (a ≤ b) = true → decide (b ≤ c) = true → decide (a ≤ c) = true := fun a b c h1 h2 => by
    simp only [decide_eq_true_eq] at *
    exact List.le_trans h1 h2
  have tot : ∀ a b : List UInt8, (decide (a ≤ b) || decide (b ≤ a)) = true := fun a b => by
    simp only [Bool.or_eq_true, decide_eq_true_eq]
    exact List.le_total a b
  refine List.Perm.eq_of_pairwise (le := fun a b => decide (a ≤ b) = true) (fun a b _ _ h1 h2 => List.le_antisymm (by simpa using h1) (by simpa using h2)) (List.pairwise_mergeSort le tot _) (List.pairwise_mergeSort le tot _) ?_
  exact (List.mergeSort_perm _ _).trans (h.trans (List.mergeSort_perm _ _).symm)
section
variable {P : Program} {ρk ρt ρm : Ren}
theorem EC (LK : SlLaysZ.n7 P ρk) (LT : SlLaysZ.n6 P ρt) (LM : SlLaysM.n6 P ρm) (h9 : ρt.f 9 = ρm.f 6) (hK : P.underlying (ρk.t 26) = some .string) (eg : ∀ args w, (callFunc (ρk.f 10) args).run P w = .ok (.enter (ρk.f 10) args) w) (es : ∀ args w, (callFunc (ρt.f 9) args).run P w = .ok (.enter (ρt.f 9) args) w)
    {β : Type} {vf : β → Value} {l : List (ByteArray × β)} {b : Nat} {mv : Value} {t : TypeId} {W : World} {r : List ByteArray} (hb : W.heap[b]? = some (.cells #[mv] t (0, 0))) (hm : rl Value.string vf (hp W) mv l) (hk : Be l = some r) :
    gQ false P (ρt.f 6) [.func (.func (ρk.f 10)) #[] #[.pointer (some ⟨b, 0, none⟩)]] W (ρt.t 26) xZ 1 r := by
  unfold Be at hk
  split at hk
  case isFalse => cases hk
  rename_i hc
  obtain ⟨hc1, hc2, hc3⟩ := hc
  cases hk
  have hblt : b < W.heap.size := (Array.getElem?_eq_some_iff.1 hb).1
  have hcell : W.cell? ⟨b, 0, none⟩ = some mv := by simp [World.cell?, hb]
  have hsort : AnyZ.SortsIn P ρt Fence.wide 4 :=
    ⟨fun blk off cap ss W hH hblk hsz => callsIn_wide.2 (by rw [h9]; exact AnyM.slices_Sort_string LM blk off cap ss W hH hblk hsz), fun p cap W => callsIn_wide.2 (by rw [h9]; exact AnyM.slices_Sort_string_none LM p cap W)⟩
  have hseq : SeqGives Fence.wide 2 P (ρk.f 10) #[.pointer (some ⟨b, 0, none⟩)] encStr (fun ss => ss.Perm ((l.map (·.1)).map fun b => b.data.toList)) l.length W := by
    rcases hm with ⟨rfl, rfl⟩ | ⟨m, es, clock, rfl, hmb, hmap⟩
    · have := AnyZ.keys_gives_nil (ρ := ρk) { LK with } Fence.wide 2 trivial rfl b W hblt hcell
      intro l' J W' hW hJ hY h0
      refine CallsIn.mono (this l' J W' hW hJ hY h0) ?_
      rintro e w' ⟨hv, ss, rfl, hj⟩
      exact ⟨hv, [], List.Perm.refl _, hj⟩
    · obtain ⟨D, hown, hperm, hsz⟩ := EI hK hmap hc1 hc2 (by unfold maxLen; omega) hmb
      have := AnyZ.keys_gives (ρ := ρk) { LK with } Fence.wide 2 trivial rfl (by omega) b m es.size D W hblt hcell hown
      intro l' J W' hW hJ hY h0
      refine CallsIn.mono (this l' J W' hW hJ (by rw [hsz]; exact hY) h0) ?_
      rintro e w' ⟨hv, ss, hp, hj⟩
      refine ⟨hv, ss, ?_, hj⟩
      rw [List.map_map]
      exact hp.trans hperm
  have cS := AnyZ.sorted_in LT Fence.wide 5 trivial trivial trivial trivial rfl (by omega) hsort es (ρk.f 10) #[.pointer (some ⟨b, 0, none⟩)] trivial eg _ l.length (by unfold maxLen; omega) hc3 W hseq
  refine Calls.mono (callsIn_wide.1 cS) ?_
  rintro e w' ⟨v, ss, rfl, hS, hrow, hnil, hbel⟩
  have hs := De hS
  have hlen : ss.length = (qL (l.map (·.1))).length := by
    have := congrArg List.length hs
    simpa using this
  have hflat : (ss.mergeSort (fun x y => decide (x ≤ y))).map encStr = ((qL (l.map (·.1))).map xZ).flatten := by
    rw [hs, Jj, List.map_map]
    refine List.map_congr_left (fun x _ => ?_)
    simp only [Function.comp, encStr]
  rcases hrow.2 with ⟨rfl, h0⟩ | ⟨g, cap, cur, rfl, hbase, hg, hnc, hcm, hcs, htk⟩
  · have : qL (l.map (·.1)) = [] := List.eq_nil_of_length_eq_zero (by omega)
    rw [this]
    exact ⟨_, [], rfl, rc.of_ex ⟨hbel.os, hbel.tape, hbel.output, fun h => (by cases h), hbel.size, fun b hb => hbel.block b hb⟩ (fun _ _ h => by cases h) (by simp), bI.nil _ _ _⟩
  · refine ⟨_, [(g, .cells cur (ρt.t 26) (0, 0))], rfl, rc.of_ex ⟨hbel.os, hbel.tape, hbel.output, fun h => (by cases h), hbel.size, fun b hb => hbel.block b hb⟩ (fun b o h => by simp at h; obtain ⟨rfl, rfl⟩ := h; exact ⟨hg, hbase⟩) (by simp), .inr ⟨g, cap, cur, by rw [hlen], rfl, by omega, hcm, hcs, ?_⟩⟩
    rw [← hlen, htk, hflat]
end
end Go.Proofs.YtmlncblocfcmiaaGreat
namespace Go.Proofs.YtmlncblocfcmiaaGreat
def Gi : Go.Shelf.Ren := ⟨fun | 6 => 230 | 15 => 322 | 14 => 321 | 28 => 367 | 29 => 368 | 20 => 359 | 21 => 360 | 22 => 361 | 23 => 362 | 24 => 363 | 25 => 364 | 26 => 365 | 27 => 366 | 46 => 410 | 47 => 411 | 48 => 412 | 49 => 413 | 50 => 414 | 57 => 449 | n => n, fun | 22 => 22 | 24 => 53 | 25 => 194 | 3 => 3 | 39 => 353 | 0 => 0 | 53 => 389 | 55 => 309 | 4 => 4 | 46 => 383 | 45 => 382 | 50 => 39 | 5 => 5 | 9 => 9 | 66 => 419 | 70 => 423 | 76 => 446 | 77 => 274 | n => n, fun | n => n⟩
theorem JD : Go.Proofs.SlLaysF0.n6 Tryz.prog Gi := {
  mixed := by kernel_rfl,
  f6 := ⟨Tryz.f230.name, by decide, Tryz.func230.trans (congrArg some (by kernel_rfl))⟩,
  f14 := ⟨Tryz.f321.name, by decide, Tryz.func321.trans (congrArg some (by kernel_rfl))⟩,
  f15 := Tryz.func322.trans (congrArg some (by kernel_rfl)),
  f20 := ⟨Tryz.f359.name, by decide, Tryz.func359.trans (congrArg some (by kernel_rfl))⟩,
  f21 := ⟨Tryz.f360.name, by decide, Tryz.func360.trans (congrArg some (by kernel_rfl))⟩,
  f22 := ⟨Tryz.f361.name, by decide, Tryz.func361.trans (congrArg some (by kernel_rfl))⟩,
  f23 := ⟨Tryz.f362.name, by decide, Tryz.func362.trans (congrArg some (by kernel_rfl))⟩,
  f24 := ⟨Tryz.f363.name, by decide, Tryz.func363.trans (congrArg some (by kernel_rfl))⟩,
  f25 := ⟨Tryz.f364.name, by decide, Tryz.func364.trans (congrArg some (by kernel_rfl))⟩,
  f26 := ⟨Tryz.f365.name, by decide, Tryz.func365.trans (congrArg some (by kernel_rfl))⟩,
  f27 := ⟨Tryz.f366.name, by decide, Tryz.func366.trans (congrArg some (by kernel_rfl))⟩,
  f28 := Tryz.func367.trans (congrArg some (by kernel_rfl)),
  f29 := Tryz.func368.trans (congrArg some (by kernel_rfl)),
  f46 := ⟨Tryz.f410.name, by decide, Tryz.func410.trans (congrArg some (by kernel_rfl))⟩,
  f47 := Tryz.func411.trans (congrArg some (by kernel_rfl)),
  f48 := Tryz.func412.trans (congrArg some (by kernel_rfl)),
  f49 := ⟨Tryz.f413.name, by decide, Tryz.func413.trans (congrArg some (by kernel_rfl))⟩,
  f50 := ⟨Tryz.f414.name, by decide, Tryz.func414.trans (congrArg some (by kernel_rfl))⟩,
  f57 := ⟨Tryz.f449.name, by decide, Tryz.func449.trans (congrArg some (by kernel_rfl))⟩,
  t0 := Tryz.underlying0,
  a0 := Tryz.isAgg0,
  z0 := Tryz.sizeOf0,
  v0 := Tryz.zeroValue0,
  t3 := Tryz.underlying3,
  a3 := Tryz.isAgg3,
  z3 := Tryz.sizeOf3,
  v3 := Tryz.zeroValue3,
  t4 := Tryz.underlying4,
  a4 := Tryz.isAgg4,
  z4 := Tryz.sizeOf4,
  v4 := Tryz.zeroValue4,
  t5 := Tryz.underlying5,
  a5 := Tryz.isAgg5,
  z5 := Tryz.sizeOf5,
  v5 := Tryz.zeroValue5,
  t9 := Tryz.underlying9,
  a9 := Tryz.isAgg9,
  z9 := Tryz.sizeOf9,
  v9 := Tryz.zeroValue9,
  t22 := Tryz.underlying22,
  a22 := Tryz.isAgg22,
  z22 := Tryz.sizeOf22,
  v22 := Tryz.zeroValue22,
  t25 := Tryz.underlying194,
  a25 := Tryz.isAgg194,
  z25 := Tryz.sizeOf194,
  v25 := Tryz.zeroValue194,
  t39 := Tryz.underlying353,
  a39 := Tryz.isAgg353,
  z39 := Tryz.sizeOf353,
  v39 := Tryz.zeroValue353,
  t45 := Tryz.underlying382,
  a45 := Tryz.isAgg382,
  z45 := Tryz.sizeOf382,
  v45 := Tryz.zeroValue382,
  t46 := Tryz.underlying383,
  a46 := Tryz.isAgg383,
  z46 := Tryz.sizeOf383,
  v46 := Tryz.zeroValue383,
  t50 := Tryz.underlying39,
  a50 := Tryz.isAgg39,
  z50 := Tryz.sizeOf39,
  v50 := Tryz.zeroValue39,
  t53 := Tryz.underlying389,
  a53 := Tryz.isAgg389,
  z53 := Tryz.sizeOf389,
  v53 := Tryz.zeroValue389,
  t55 := Tryz.underlying309,
  a55 := Tryz.isAgg309,
  z55 := Tryz.sizeOf309,
  v55 := Tryz.zeroValue309,
  t66 := Tryz.underlying419,
  a66 := Tryz.isAgg419,
  z66 := Tryz.sizeOf419,
  v66 := Tryz.zeroValue419,
  t70 := Tryz.underlying423,
  a70 := Tryz.isAgg423,
  z70 := Tryz.sizeOf423,
  v70 := Tryz.zeroValue423,
  t76 := Tryz.underlying446,
  a76 := Tryz.isAgg446,
  z76 := Tryz.sizeOf446,
  v76 := Tryz.zeroValue446,
  t77 := Tryz.underlying274,
  a77 := Tryz.isAgg274,
  z77 := Tryz.sizeOf274,
  v77 := Tryz.zeroValue274}
def JH : Go.Shelf.Ren := ⟨fun | 6 => 273 | 8 => 322 | 9 => 343 | 19 => 367 | 20 => 368 | 21 => 396 | 22 => 397 | 23 => 398 | 24 => 399 | 25 => 400 | 26 => 401 | 27 => 402 | 28 => 403 | 29 => 404 | 36 => 426 | 31 => 411 | 32 => 412 | 37 => 427 | 38 => 428 | 39 => 429 | 41 => 454 | n => n, fun | 27 => 82 | 29 => 9 | 3 => 3 | 32 => 353 | 26 => 82 | 0 => 0 | 44 => 389 | 46 => 309 | 4 => 4 | 36 => 383 | 35 => 382 | 41 => 39 | 5 => 5 | 9 => 9 | 53 => 419 | 57 => 423 | 63 => 446 | 64 => 274 | n => n, fun | n => n⟩
theorem JR : Go.Proofs.SlLaysM.n6 Tryz.prog JH := {
  mixed := by kernel_rfl,
  f6 := ⟨Tryz.f273.name, by decide, Tryz.func273.trans (congrArg some (by kernel_rfl))⟩,
  f8 := Tryz.func322.trans (congrArg some (by kernel_rfl)),
  f9 := ⟨Tryz.f343.name, by decide, Tryz.func343.trans (congrArg some (by kernel_rfl))⟩,
  f19 := Tryz.func367.trans (congrArg some (by kernel_rfl)),
  f20 := Tryz.func368.trans (congrArg some (by kernel_rfl)),
  f21 := ⟨Tryz.f396.name, by decide, Tryz.func396.trans (congrArg some (by kernel_rfl))⟩,
  f22 := ⟨Tryz.f397.name, by decide, Tryz.func397.trans (congrArg some (by kernel_rfl))⟩,
  f23 := ⟨Tryz.f398.name, by decide, Tryz.func398.trans (congrArg some (by kernel_rfl))⟩,
  f24 := ⟨Tryz.f399.name, by decide, Tryz.func399.trans (congrArg some (by kernel_rfl))⟩,
  f25 := ⟨Tryz.f400.name, by decide, Tryz.func400.trans (congrArg some (by kernel_rfl))⟩,
  f26 := ⟨Tryz.f401.name, by decide, Tryz.func401.trans (congrArg some (by kernel_rfl))⟩,
  f27 := ⟨Tryz.f402.name, by decide, Tryz.func402.trans (congrArg some (by kernel_rfl))⟩,
  f28 := ⟨Tryz.f403.name, by decide, Tryz.func403.trans (congrArg some (by kernel_rfl))⟩,
  f29 := ⟨Tryz.f404.name, by decide, Tryz.func404.trans (congrArg some (by kernel_rfl))⟩,
  f31 := Tryz.func411.trans (congrArg some (by kernel_rfl)),
  f32 := Tryz.func412.trans (congrArg some (by kernel_rfl)),
  f36 := ⟨Tryz.f426.name, by decide, Tryz.func426.trans (congrArg some (by kernel_rfl))⟩,
  f37 := ⟨Tryz.f427.name, by decide, Tryz.func427.trans (congrArg some (by kernel_rfl))⟩,
  f38 := ⟨Tryz.f428.name, by decide, Tryz.func428.trans (congrArg some (by kernel_rfl))⟩,
  f39 := ⟨Tryz.f429.name, by decide, Tryz.func429.trans (congrArg some (by kernel_rfl))⟩,
  f41 := ⟨Tryz.f454.name, by decide, Tryz.func454.trans (congrArg some (by kernel_rfl))⟩,
  t0 := Tryz.underlying0,
  a0 := Tryz.isAgg0,
  z0 := Tryz.sizeOf0,
  v0 := Tryz.zeroValue0,
  t3 := Tryz.underlying3,
  a3 := Tryz.isAgg3,
  z3 := Tryz.sizeOf3,
  v3 := Tryz.zeroValue3,
  t4 := Tryz.underlying4,
  a4 := Tryz.isAgg4,
  z4 := Tryz.sizeOf4,
  v4 := Tryz.zeroValue4,
  t5 := Tryz.underlying5,
  a5 := Tryz.isAgg5,
  z5 := Tryz.sizeOf5,
  v5 := Tryz.zeroValue5,
  t9 := Tryz.underlying9,
  a9 := Tryz.isAgg9,
  z9 := Tryz.sizeOf9,
  v9 := Tryz.zeroValue9,
  t26 := Tryz.underlying82,
  a26 := Tryz.isAgg82,
  z26 := Tryz.sizeOf82,
  v26 := Tryz.zeroValue82,
  t27 := Tryz.underlying82,
  a27 := Tryz.isAgg82,
  z27 := Tryz.sizeOf82,
  v27 := Tryz.zeroValue82,
  t29 := Tryz.underlying9,
  a29 := Tryz.isAgg9,
  z29 := Tryz.sizeOf9,
  v29 := Tryz.zeroValue9,
  t32 := Tryz.underlying353,
  a32 := Tryz.isAgg353,
  z32 := Tryz.sizeOf353,
  v32 := Tryz.zeroValue353,
  t35 := Tryz.underlying382,
  a35 := Tryz.isAgg382,
  z35 := Tryz.sizeOf382,
  v35 := Tryz.zeroValue382,
  t36 := Tryz.underlying383,
  a36 := Tryz.isAgg383,
  z36 := Tryz.sizeOf383,
  v36 := Tryz.zeroValue383,
  t41 := Tryz.underlying39,
  a41 := Tryz.isAgg39,
  z41 := Tryz.sizeOf39,
  v41 := Tryz.zeroValue39,
  t44 := Tryz.underlying389,
  a44 := Tryz.isAgg389,
  z44 := Tryz.sizeOf389,
  v44 := Tryz.zeroValue389,
  t46 := Tryz.underlying309,
  a46 := Tryz.isAgg309,
  z46 := Tryz.sizeOf309,
  v46 := Tryz.zeroValue309,
  t53 := Tryz.underlying419,
  a53 := Tryz.isAgg419,
  z53 := Tryz.sizeOf419,
  v53 := Tryz.zeroValue419,
  t57 := Tryz.underlying423,
  a57 := Tryz.isAgg423,
  z57 := Tryz.sizeOf423,
  v57 := Tryz.zeroValue423,
  t63 := Tryz.underlying446,
  a63 := Tryz.isAgg446,
  z63 := Tryz.sizeOf446,
  v63 := Tryz.zeroValue446,
  t64 := Tryz.underlying274,
  a64 := Tryz.isAgg274,
  z64 := Tryz.sizeOf274,
  v64 := Tryz.zeroValue274}
def IE : Go.Shelf.Ren := ⟨fun | 7 => 234 | 10 => 327 | n => n, fun | 23 => 296 | 26 => 9 | 3 => 4 | 28 => 223 | 0 => 0 | 27 => 222 | 33 => 214 | 4 => 4 | n => n, fun | n => n⟩
theorem ID : Go.Proofs.SlLaysZ.n7 Tryz.prog IE := {
  mixed := by kernel_rfl,
  f7 := ⟨Tryz.f234.name, by decide, Tryz.func234.trans (congrArg some (by kernel_rfl))⟩,
  f10 := ⟨Tryz.f327.name, by decide, Tryz.func327.trans (congrArg some (by kernel_rfl))⟩,
  t0 := Tryz.underlying0,
  a0 := Tryz.isAgg0,
  z0 := Tryz.sizeOf0,
  v0 := Tryz.zeroValue0,
  t4 := Tryz.underlying4,
  a4 := Tryz.isAgg4,
  z4 := Tryz.sizeOf4,
  v4 := Tryz.zeroValue4,
  t23 := Tryz.underlying296,
  a23 := Tryz.isAgg296,
  z23 := Tryz.sizeOf296,
  v23 := Tryz.zeroValue296,
  t26 := Tryz.underlying9,
  a26 := Tryz.isAgg9,
  z26 := Tryz.sizeOf9,
  v26 := Tryz.zeroValue9,
  t27 := Tryz.underlying222,
  a27 := Tryz.isAgg222,
  z27 := Tryz.sizeOf222,
  v27 := Tryz.zeroValue222,
  t28 := Tryz.underlying223,
  a28 := Tryz.isAgg223,
  z28 := Tryz.sizeOf223,
  v28 := Tryz.zeroValue223,
  t33 := Tryz.underlying214,
  a33 := Tryz.isAgg214,
  z33 := Tryz.sizeOf214,
  v33 := Tryz.zeroValue214}
def IG : Go.Shelf.Ren := ⟨fun | 6 => 159 | 8 => 272 | 9 => 273 | 11 => 342 | 13 => 322 | 12 => 343 | 23 => 367 | 24 => 368 | 14 => 396 | 15 => 397 | 16 => 398 | 17 => 399 | 18 => 400 | 19 => 401 | 20 => 402 | 21 => 403 | 22 => 404 | 25 => 426 | 26 => 411 | 27 => 412 | 28 => 427 | 29 => 428 | 30 => 429 | 31 => 454 | n => n, fun | 26 => 9 | 28 => 223 | 24 => 82 | 0 => 0 | 3 => 3 | 37 => 353 | 48 => 389 | 50 => 309 | 4 => 4 | 40 => 383 | 39 => 382 | 45 => 39 | 5 => 5 | 9 => 9 | 51 => 419 | 55 => 423 | 57 => 446 | 58 => 274 | 33 => 214 | n => n, fun | n => n⟩
theorem IW : Go.Proofs.SlLaysZ.n6 Tryz.prog IG := {
  mixed := by kernel_rfl,
  f6 := ⟨Tryz.f159.name, by decide, Tryz.func159.trans (congrArg some (by kernel_rfl))⟩,
  f8 := ⟨Tryz.f272.name, by decide, Tryz.func272.trans (congrArg some (by kernel_rfl))⟩,
  f11 := ⟨Tryz.f342.name, by decide, Tryz.func342.trans (congrArg some (by kernel_rfl))⟩,
  t0 := Tryz.underlying0,
  a0 := Tryz.isAgg0,
  z0 := Tryz.sizeOf0,
  v0 := Tryz.zeroValue0,
  t24 := Tryz.underlying82,
  a24 := Tryz.isAgg82,
  z24 := Tryz.sizeOf82,
  v24 := Tryz.zeroValue82,
  t26 := Tryz.underlying9,
  a26 := Tryz.isAgg9,
  z26 := Tryz.sizeOf9,
  v26 := Tryz.zeroValue9,
  t28 := Tryz.underlying223,
  a28 := Tryz.isAgg223,
  z28 := Tryz.sizeOf223,
  v28 := Tryz.zeroValue223,
  i26 := by kernel_rfl}
end Go.Proofs.YtmlncblocfcmiaaGreat
namespace Go.Proofs.YtmlncblocfcmiaaGreat
open Go.RowKit
set_option maxRecDepth 10000
structure Role where
  Owner : ByteArray
  Word : ByteArray
def aO (x : Role) : List Value := [.string x.Owner, .string x.Word]
def bA (x y : Role) : Bool := (cQ x.Owner y.Owner) && ((cQ x.Word y.Word) && true)
theorem aZ {x y : Role} : bA x y = true ↔ x = y := by
  cases x; cases y; simp [bA, eP]
theorem tY (x : Role) : (aO x).length = 2 := rfl
theorem rI (x : Role) : ∀ u ∈ aO x, u.oneCell' = true := by
  intro u hu
  simp only [aO, List.mem_cons, List.not_mem_nil, or_false] at hu
  rcases hu with rfl | rfl <;> rfl
structure Cred where
  Kind : Int
  Head : Role
  Who : ByteArray
  B : Role
  C : Role
  Word2 : ByteArray
def aI (x : Cred) : List Value := [.int .i64 x.Kind, .string x.Head.Owner, .string x.Head.Word, .string x.Who, .string x.B.Owner, .string x.B.Word, .string x.C.Owner, .string x.C.Word, .string x.Word2]
def fB (x y : Cred) : Bool := (x.Kind == y.Kind) && ((bA x.Head y.Head) && ((cQ x.Who y.Who) && ((bA x.B y.B) && ((bA x.C y.C) && ((cQ x.Word2 y.Word2) && true)))))
theorem iW {x y : Cred} : fB x y = true ↔ x = y := by
  cases x; cases y; simp [fB, eP, aZ]
theorem bQ (x : Cred) : (aI x).length = 9 := rfl
theorem gY (x : Cred) : ∀ u ∈ aI x, u.oneCell' = true := by
  intro u hu
  simp only [aI, List.mem_cons, List.not_mem_nil, or_false] at hu
  rcases hu with rfl | rfl | rfl | rfl | rfl | rfl | rfl | rfl | rfl <;> rfl
structure aT where
  Role : Role
  Who : ByteArray
def dH (x : aT) : List Value := [.string x.Role.Owner, .string x.Role.Word, .string x.Who]
def vO (x y : aT) : Bool := (bA x.Role y.Role) && ((cQ x.Who y.Who) && true)
theorem tp {x y : aT} : vO x y = true ↔ x = y := by
  cases x; cases y; simp [vO, eP, aZ]
theorem tW (x : aT) : (dH x).length = 3 := rfl
theorem EU (x : aT) : ∀ u ∈ dH x, u.oneCell' = true := by
  intro u hu
  simp only [dH, List.mem_cons, List.not_mem_nil, or_false] at hu
  rcases hu with rfl | rfl | rfl <;> rfl
structure bW where
  e : Int
def cP (x : bW) : List Value := [.int .i64 x.e]
structure Key where
  Who : ByteArray
  Key : List Int
structure Signed where
  Cred : Cred
  Tag : List Int
structure kT where
  m : List (ByteArray × (List Int))
structure aB where
  Op : Int
  K : Int
  Role : Role
  Kids : List aB
structure bK where
  Signed : Signed
  Release : aB
structure eO where
  Role : Role
  Release : aB
  Closure : List Cred
structure cG where
  Name : ByteArray
  Creds : List bK
  Acks : List eO
noncomputable def gC (a0 : ByteArray) (a1 : Int) : Option Int :=
  some (sS a0 a1)
noncomputable def kP (a0 : ByteArray) (a1 : Int) : Option Int :=
  (((gC a0 a1)).bind fun r1 => some r1)
noncomputable def nD  : List Int → Option Bool
  | [] => some true
  | x43 :: xs44 => (((kP ((⟨#[97, 98, 99, 100, 101, 102, 103, 104, 105, 106, 107, 108, 109, 110, 111, 112, 113, 114, 115, 116, 117, 118, 119, 120, 121, 122, 48, 49, 50, 51, 52, 53, 54, 55, 56, 57, 45]⟩ : ByteArray)) x43)).bind fun r70 => (if (decide (r70 < 0)) then some false else (nD xs44)))
noncomputable def uV (a0 : ByteArray) : Option Bool :=
  (((xE a0)).bind fun l1 => nD l1)
noncomputable def kS (a0 : ByteArray) : Option Bool :=
  (((if (decide (((a0.size : Int)) ≥ 1)) then some ((decide (((a0.size : Int)) ≤ 16))) else some false) : Option Bool).bind fun x2 => (((if x2 then (((vt a0 0)).bind fun c40 => (((kP ((⟨#[97, 98, 99, 100, 101, 102, 103, 104, 105, 106, 107, 108, 109, 110, 111, 112, 113, 114, 115, 116, 117, 118, 119, 120, 121, 122]⟩ : ByteArray)) ((c40.toNat : Int)))).bind fun r42 => some ((decide (r42 ≥ 0))))) else some false) : Option Bool).bind fun x14 => (((if x14 then (((uV a0)).bind fun r33 => some r33) else some false) : Option Bool).bind fun x24 => some x24)))
noncomputable def pP (a0 : List Int) : Option (List Int) :=
  (((fK 1 ([]) a0)).bind fun l8 => some l8)
noncomputable def iR (a0 : Role) : Option Bool :=
  (((kS a0.Owner)).bind fun r3 => (((if r3 then (((kS a0.Word)).bind fun r19 => some r19) else some false) : Option Bool).bind fun x10 => some x10))
noncomputable def fA (a0 : ByteArray) (a1 : ByteArray) : Option Int :=
  some (jT a0 a1)
noncomputable def jB (a0 : ByteArray) (a1 : ByteArray) : Option Int :=
  (((fA a0 a1)).bind fun r1 => some r1)
noncomputable def kJ  : List Int → Option Int
  | [] => some 0
  | x27 :: xs28 => (if (x27 != 0) then some x27 else (kJ xs28))
noncomputable def pD (a0 : List Int) : Option Int :=
  kJ a0
noncomputable def iY (a0 : Role) (a1 : Role) : Option Int :=
  (((jB a0.Owner a1.Owner)).bind fun r27 => (((jB a0.Word a1.Word)).bind fun r30 => (((pD ([r27, r30]))).bind fun r35 => some r35)))
noncomputable def mC (a0 : Cred) : Option Bool :=
  (((iR a0.Head)).bind fun r6 => (((if (a0.Kind == 1) then (((if r6 then (((kS a0.Who)).bind fun r330 => some r330) else some false) : Option Bool).bind fun x316 => some (Sum.inr (x316, ((⟨a0.Kind, a0.Head, a0.Who, (⟨zS, zS⟩ : Role), (⟨zS, zS⟩ : Role), zS⟩ : Cred))))) else (if (a0.Kind == 2) then (((if r6 then (((iR a0.B)).bind fun r393 => some r393) else some false) : Option Bool).bind fun x379 => some (Sum.inr (x379, ((⟨a0.Kind, a0.Head, zS, a0.B, (⟨zS, zS⟩ : Role), zS⟩ : Cred))))) else (if (a0.Kind == 3) then (((if r6 then (((iR a0.B)).bind fun r448 => some r448) else some false) : Option Bool).bind fun x407 => (((if x407 then some ((cQ a0.B.Owner a0.Head.Owner)) else some false) : Option Bool).bind fun x415 => (((if x415 then (((kS a0.Word2)).bind fun r437 => some r437) else some false) : Option Bool).bind fun x426 => some (Sum.inr (x426, ((⟨a0.Kind, a0.Head, zS, a0.B, (⟨zS, zS⟩ : Role), a0.Word2⟩ : Cred))))))) else (if (a0.Kind == 4) then (((if r6 then (((iR a0.B)).bind fun r509 => some r509) else some false) : Option Bool).bind fun x462 => (((if x462 then (((iR a0.C)).bind fun r502 => some r502) else some false) : Option Bool).bind fun x473 => (((if x473 then (((iY a0.B a0.C)).bind fun r495 => some ((decide (r495 < 0)))) else some false) : Option Bool).bind fun x484 => some (Sum.inr (x484, ((⟨a0.Kind, a0.Head, zS, a0.B, a0.C, zS⟩ : Cred))))))) else some (Sum.inl false))))) : Option ((Bool ⊕ ((Bool × Cred))))).bind fun s => match s with | .inl q512 => some q512 | .inr (x251, x252) => (((if x251 then some ((fB x252 a0)) else some false) : Option Bool).bind fun x259 => some x259)))
noncomputable def sb (a0 : Option kT) (a1 : Cred) : Option (((List Int) × Int)) :=
  (if a0.isNone then some ([], 1) else (((mC a1)).bind fun r4 => (if (!r4) then some ([], 11) else (a0.bind fun x36 => (if (!((cH cQ x36.m a1.Head.Owner).isSome)) then some ([], 21) else some (((cH cQ x36.m a1.Head.Owner).getD []), 0))))))
noncomputable def iZ  : Nat → Int → (List Int) → Option ((Bool × (List Int)))
  | 0, _, _ => none
  | n93 + 1, x67, l69 => (if (decide (x67 ≥ 128)) then (((fK 1 l69 ([(IntKind.u8.wrap (BitVec.ofInt (IntKind.bits .u8) ((IntKind.u8.wrap x67)) ||| BitVec.ofInt (IntKind.bits .u8) 128).toNat)]))).bind fun l99 => (iZ n93 ((Int.fdiv x67 (2 ^ min (Int.toNat 7) (IntKind.bits .i64)))) l99)) else (((fK 1 l69 ([(IntKind.u8.wrap x67)]))).bind fun l110 => some (true, l110)))
noncomputable def gD (a0_b : List Int) (a1 : Int) : Option ((Bool × (List Int))) :=
  (if (decide (a1 < 0)) then some (false, a0_b) else iZ cE a1 a0_b)
noncomputable def qI (a0_b : List Int) (a1 : List Int) : Option ((Bool × (List Int))) :=
  (if (decide (((a1.length : Int)) > 2048)) then some (false, a0_b) else (((gD a0_b ((a1.length : Int)))).bind fun r2 => (((fK 1 r2.2 a1)).bind fun l15 => some (true, l15))))
noncomputable def nL (a0_b : List Int) (a1 : ByteArray) : Option ((Bool × (List Int))) :=
  (((kS a1)).bind fun r1 => (((if r1 then (((xE a1)).bind fun l42 => (((qI a0_b l42)).bind fun r51 => some (r51.1, r51.2))) else some (false, a0_b)) : Option ((Bool × (List Int)))).bind fun (x28, l30) => some (x28, l30)))
noncomputable def jQ (a0_b : List Int) (a1 : Role) : Option ((Bool × (List Int))) :=
  (((iR a1)).bind fun r3 => (((if r3 then (((nL a0_b a1.Owner)).bind fun r79 => some (r79.1, r79.2)) else some (false, a0_b)) : Option ((Bool × (List Int)))).bind fun (x21, l23) => (((if x21 then (((nL l23 a1.Word)).bind fun r62 => some (r62.1, r62.2)) else some (false, l23)) : Option ((Bool × (List Int)))).bind fun (x48, l50) => some (x48, l50))))
noncomputable def mZ (a0_b : List Int) : Option (List Int) :=
  (((pP a0_b)).bind fun r4 => some r4)
noncomputable def oV (a0 : Cred) : Option (List Int) :=
  (((mC a0)).bind fun r3 => (if (!r3) then some [] else (((gD ([]) a0.Kind)).bind fun r9 => (((jQ r9.2 a0.Head)).bind fun r22 => (((if (a0.Kind == 1) then (((nL r22.2 a0.Who)).bind fun r139 => some r139.2) else (if (a0.Kind == 2) then (((jQ r22.2 a0.B)).bind fun r153 => some r153.2) else (if (a0.Kind == 3) then (((jQ r22.2 a0.B)).bind fun r167 => (((nL r167.2 a0.Word2)).bind fun r180 => some r180.2)) else (if (a0.Kind == 4) then (((jQ r22.2 a0.B)).bind fun r194 => (((jQ r194.2 a0.C)).bind fun r207 => some r207.2)) else some r22.2)))) : Option (List Int)).bind fun l119 => (((mZ l119)).bind fun r126 => some r126))))))
noncomputable def uS (a0 : List Int) : Option Bool :=
  (((if (decide (((a0.length : Int)) ≥ 1)) then some ((decide (((a0.length : Int)) ≤ 32))) else some false) : Option Bool).bind fun x2 => some x2)
noncomputable def sC  : List Int → Int → Option Int
  | [], x461 => some x461
  | x452 :: xs453, x461 => (sC xs453 ((IntKind.u64.wrap (((IntKind.u64.wrap (BitVec.ofInt (IntKind.bits .u64) x461 ^^^ BitVec.ofInt (IntKind.bits .u64) ((IntKind.u64.wrap x452))).toNat)) * 1099511628211))))
noncomputable def sv  : List (List Int) → Int → Option Int
  | [], x323 => some x323
  | x242 :: xs243, x323 => ((sC x242 x323 : Option Int).bind fun x441 => (sv xs243 x441))
noncomputable def yN (a0 : List (List Int)) : Option Int :=
  sv a0 14695981039346656037
noncomputable def ry (r13 : Int) : List Int → Nat → (List Int) → Option (List Int)
  | [], _, l83 => some l83
  | x69 :: xs70, i68, l83 => (((nQ (decide (0 ≤ ((IntKind.i64.wrap (8 * ((IntKind.i64.wrap (7 - ((i68 : Int)))))))))))).bind fun _ => (((dK l83 ((i68 : Int)))).bind fun x109 => (ry r13 xs70 (i68 + 1) ((l83.set (Int.toNat ((i68 : Int))) ((IntKind.u8.wrap ((Int.fdiv r13 (2 ^ min (Int.toNat ((IntKind.i64.wrap (8 * ((IntKind.i64.wrap (7 - ((i68 : Int))))))))) (IntKind.bits .u64)))))))))))
noncomputable def yk (a0 : List Int) (a1 : List Int) : Option (List Int) :=
  (((uS a0)).bind fun r1 => (if (!r1) then some [] else (((yN ([[(IntKind.u8.wrap ((a0.length : Int)))], a0, a1, a0]))).bind fun r13 => (((xT 1 0 8)).bind fun l16 => ry r13 l16 0 l16))))
noncomputable def vr (a0 : List Int) (a1 : List Int) : Option Bool :=
  some (cQ ((xl a0)) ((xl a1)))
noncomputable def yf (a0 : List Int) (a1 : List Int) (a2 : List Int) : Option Bool :=
  (((uS a0)).bind fun r1 => (((if r1 then (((yk a0 a1)).bind fun r28 => (((vr r28 a2)).bind fun r37 => some r37)) else some false) : Option Bool).bind fun x18 => some x18))
noncomputable def qW (a0 : Option kT) (a1 : Signed) : Option Int :=
  (((sb a0 a1.Cred)).bind fun r5 => (((if (r5.2 == 0) then (((oV a1.Cred)).bind fun r114 => (((yf r5.1 r114 a1.Tag)).bind fun r123 => some ((!r123)))) else some false) : Option Bool).bind fun x103 => (if x103 then some 20 else some r5.2)))
noncomputable def mW (a0 : List Cred) : Option (List Cred) :=
  (((fK 136 ([]) a0)).bind fun l8 => some l8)
noncomputable def fJ (f1 : Cred → Option Bool) : List Cred → Nat → Option Int
  | [], _ => some (-1)
  | x36 :: xs37, i35 => (((f1 x36)).bind fun r65 => (if r65 then some (i35 : Int) else (fJ f1 xs37 (i35 + 1))))
noncomputable def mR (a0 : List Cred) (f1 : Cred → Option Bool) : Option Int :=
  fJ f1 a0 0
noncomputable def fD (f1 : Cred → Option Bool) : Nat → (List Cred) → Int → Int → Option (List Cred)
  | 0, _, _, _ => none
  | n321 + 1, l249, x252, x253 => (if (decide (x253 < ((l249.length : Int)))) then (((((dK l249 x253)).bind fun x364 => (((f1 x364)).bind fun r369 => (if (!r369) then (((dK l249 x252)).bind fun x376 => some (((l249.set (Int.toNat x252) x364)), ((IntKind.i64.wrap (x252 + 1))))) else some (l249, x252)))) : Option (((List Cred) × Int))).bind fun (l348, x351) => (fD f1 n321 l348 x351 ((IntKind.i64.wrap (x253 + 1))))) else (((nQ (decide (0 ≤ x252) && decide (x252 ≤ (l249.length : Int))))).bind fun _ => (((nQ (decide (0 ≤ x252) && decide (x252 ≤ (((iT l249 (Int.toNat x252) (⟨0, (⟨zS, zS⟩ : Role), zS, (⟨zS, zS⟩ : Role), (⟨zS, zS⟩ : Role), zS⟩ : Cred))).length : Int))))).bind fun _ => some (((iT l249 (Int.toNat x252) (⟨0, (⟨zS, zS⟩ : Role), zS, (⟨zS, zS⟩ : Role), (⟨zS, zS⟩ : Role), zS⟩ : Cred))).take (Int.toNat x252)))))
noncomputable def jW (a0 : List Cred) (f1 : Cred → Option Bool) : Option (List Cred) :=
  (((mR a0 f1)).bind fun r1 => (if (r1 == ((-1))) then some a0 else fD f1 cE a0 r1 ((IntKind.i64.wrap (r1 + 1)))))
noncomputable def rz (a0 : Cred) : Option Bool :=
  (((mC a0)).bind fun r3 => some (!r3))
noncomputable def pW (a0 : List Int) (a1 : List Int) : Option Int :=
  some (tZ a0 a1)
noncomputable def nC (a0 : Cred) (a1 : Cred) : Option Int :=
  (((oV a0)).bind fun r47 => (((oV a1)).bind fun r56 => (((pW r47 r56)).bind fun r65 => some r65)))
noncomputable def fX (x2891 : Int) : Nat → (List Cred) → Int → Int → Option (((List Cred) × Int))
  | 0, _, _, _ => none
  | n4232 + 1, l4112, x4115, x4116 => (if (decide (x4116 < (((l4112.length - (Int.toNat x2891) : Nat) : Int)))) then (((((dK (l4112.drop (Int.toNat x2891)) x4116)).bind fun x4319 => (((dK (l4112.drop (Int.toNat x2891)) ((IntKind.i64.wrap (x4116 - 1))))).bind fun x4324 => (if (!(fB x4319 x4324)) then (((dK (l4112.drop (Int.toNat x2891)) x4116)).bind fun x4330 => (((dK l4112 x4115)).bind fun x4335 => some (((l4112.set (Int.toNat x4115) x4330)), ((IntKind.i64.wrap (x4115 + 1)))))) else some (l4112, x4115)))) : Option (((List Cred) × Int))).bind fun (l4283, x4286) => (fX x2891 n4232 l4283 x4286 ((IntKind.i64.wrap (x4116 + 1))))) else some (l4112, x4115))
noncomputable def fY (a0 : List Cred) : Nat → Int → Option (List Cred)
  | 0, _ => none
  | n3617 + 1, x2891 => (if (decide (x2891 < ((a0.length : Int)))) then (((dK a0 x2891)).bind fun x3644 => (((dK a0 ((IntKind.i64.wrap (x2891 - 1))))).bind fun x3649 => (if (fB x3644 x3649) then (((nQ (decide (0 ≤ x2891) && decide (x2891 ≤ (a0.length : Int))))).bind fun _ => ((fX x2891 cE a0 x2891 1 : Option (((List Cred) × Int))).bind fun (l3988, x3991) => (((nQ (decide (0 ≤ x3991) && decide (x3991 ≤ (l3988.length : Int))))).bind fun _ => (((nQ (decide (0 ≤ x3991) && decide (x3991 ≤ (((iT l3988 (Int.toNat x3991) (⟨0, (⟨zS, zS⟩ : Role), zS, (⟨zS, zS⟩ : Role), (⟨zS, zS⟩ : Role), zS⟩ : Cred))).length : Int))))).bind fun _ => some (((iT l3988 (Int.toNat x3991) (⟨0, (⟨zS, zS⟩ : Role), zS, (⟨zS, zS⟩ : Role), (⟨zS, zS⟩ : Role), zS⟩ : Cred))).take (Int.toNat x3991)))))) else (fY a0 n3617 ((IntKind.i64.wrap (x2891 + 1))))))) else some a0)
noncomputable def lI (a0 : List Cred) : Option (List Cred) :=
  (if (decide (((a0.length : Int)) < 2)) then some a0 else fY a0 cE 1)
noncomputable def re (a0 : List Cred) : Option (List Cred) :=
  (((mW a0)).bind fun r1 => (((jW r1 (fun (x : Cred) => rz x))).bind fun r10 => (((uR (fun (x : (Cred × Cred)) => nC x.1 x.2) r10)).bind fun r23 => (((lI r23)).bind fun r35 => some r35))))
noncomputable def gS (a1 : Cred) : List Cred → Nat → Option Int
  | [], _ => some (-1)
  | x47 :: xs48, i46 => (if (fB a1 x47) then some (i46 : Int) else (gS a1 xs48 (i46 + 1)))
noncomputable def pI (a0 : List Cred) (a1 : Cred) : Option Int :=
  gS a1 a0 0
noncomputable def kU (a0 : List Cred) (a1 : Cred) : Option Bool :=
  (((pI a0 a1)).bind fun r3 => some (decide (r3 ≥ 0)))
noncomputable def qz (a0 : List Cred) (a1 : Cred) : Option Bool :=
  (((kU a0 a1)).bind fun r3 => some r3)
noncomputable def sr (a0 : Cred) : Option (List Role) :=
  (((mC a0)).bind fun r3 => (if (!r3) then some [] else (((if (a0.Kind != 1) then (((fK 32 ([a0.Head]) ([a0.B]))).bind fun l60 => some l60) else some ([a0.Head])) : Option (List Role)).bind fun l19 => (((if (a0.Kind == 4) then (((fK 32 l19 ([a0.C]))).bind fun l48 => some l48) else some l19) : Option (List Role)).bind fun l36 => some l36))))
noncomputable def fM (a1 : Cred) (a0_words : List (ByteArray × (List Cred))) (l27 : List Cred) : List Role → (List (Role × (List Cred))) → Option (((List Cred) × (List (Role × (List Cred))) × (List (ByteArray × (List Cred)))))
  | [], l356 => (if (a1.Kind == 3) then (((fK 136 (((cH cQ a0_words a1.Word2).getD [])) ([a1]))).bind fun l567 => some (l27, l356, (iG cQ a0_words a1.Word2 l567))) else some (l27, l356, a0_words))
  | x281 :: xs282, l356 => (((fK 136 (((cH bA l356 x281).getD [])) ([a1]))).bind fun l498 => (fM a1 a0_words l27 xs282 ((iG bA l356 x281 l498))))
noncomputable def lY (a0_in_ : List (Role × (List (ByteArray × Bool)))) (a0_creds : List Cred) (a0_uses : List (Role × (List Cred))) (a0_words : List (ByteArray × (List Cred))) (a0_todo : List aT) (a0_n : Int) (a1 : Cred) : Option (((List Cred) × (List (Role × (List Cred))) × (List (ByteArray × (List Cred))))) :=
  (((fK 136 a0_creds ([a1]))).bind fun l27 => (((sr a1)).bind fun r36 => (((nQ (decide (0 ≤ 1) && decide (1 ≤ (r36.length : Int))))).bind fun _ => fM a1 a0_words l27 ((r36.drop (Int.toNat 1))) a0_uses)))
noncomputable def fQ (a0_in_ : List (Role × (List (ByteArray × Bool)))) (a0_creds : List Cred) (a0_uses : List (Role × (List Cred))) (a0_words : List (ByteArray × (List Cred))) (a0_todo : List aT) (a0_n : Int) (a1 : Role) (a2 : ByteArray) : Option (((List (Role × (List (ByteArray × Bool)))) × (List aT) × Int)) :=
  (if (sN cQ (((cH bA a0_in_ a1).getD [])) a2 false) then some (a0_in_, a0_todo, a0_n) else (((if (cH bA a0_in_ a1).isNone then (((AV bA a0_in_ a1 ([]))).bind fun l131 => some l131) else some a0_in_) : Option (List (Role × (List (ByteArray × Bool))))).bind fun l38 => (((AH bA cQ l38 a1 a2 true)).bind fun l66 => (((fK 48 a0_todo ([(⟨a1, a2⟩ : aT)]))).bind fun l96 => some (l66, l96, (IntKind.i64.wrap (a0_n + 1)))))))
noncomputable def fW (a0 : List (ByteArray × Bool)) : Option Unit :=
  some ()
noncomputable def jK (a0_in_ : List (Role × (List (ByteArray × Bool)))) (a0_creds : List Cred) (a0_uses : List (Role × (List Cred))) (a0_words : List (ByteArray × (List Cred))) (a0_todo : List aT) (a0_n : Int) (a1 : Role) : Option (List ByteArray) :=
  (((fW (((cH bA a0_in_ a1).getD [])))).bind fun r64 => (((Be (((cH bA a0_in_ a1).getD [])))).bind fun r75 => some r75))
noncomputable def gU (a0_creds : List Cred) (a0_uses : List (Role × (List Cred))) (a0_words : List (ByteArray × (List Cred))) (a2 : Role) : List ByteArray → (List (Role × (List (ByteArray × Bool)))) → (List aT) → Int → Option (((List (Role × (List (ByteArray × Bool)))) × (List aT) × Int))
  | [], l129, l133, x136 => some (l129, l133, x136)
  | x104 :: xs105, l129, l133, x136 => (((fQ l129 a0_creds a0_uses a0_words l133 x136 a2 x104)).bind fun r177 => (gU a0_creds a0_uses a0_words a2 xs105 r177.1 r177.2.1 r177.2.2))
noncomputable def mU (a0_in_ : List (Role × (List (ByteArray × Bool)))) (a0_creds : List Cred) (a0_uses : List (Role × (List Cred))) (a0_words : List (ByteArray × (List Cred))) (a0_todo : List aT) (a0_n : Int) (a1 : Role) (a2 : Role) : Option (((List (Role × (List (ByteArray × Bool)))) × (List aT) × Int)) :=
  (((jK a0_in_ a0_creds a0_uses a0_words a0_todo a0_n a1)).bind fun r5 => gU a0_creds a0_uses a0_words a2 r5 a0_in_ a0_todo a0_n)
noncomputable def kO (a0_in_ : List (Role × (List (ByteArray × Bool)))) (a0_creds : List Cred) (a0_uses : List (Role × (List Cred))) (a0_words : List (ByteArray × (List Cred))) (a0_todo : List aT) (a0_n : Int) (a1 : Cred) (a2 : aT) : Option (((List (Role × (List (ByteArray × Bool)))) × (List aT) × Int)) :=
  (if (a1.Kind == 2) then (((fQ a0_in_ a0_creds a0_uses a0_words a0_todo a0_n a1.Head a2.Who)).bind fun r6 => some (r6.1, r6.2.1, r6.2.2)) else (if (a1.Kind == 3) then (((mU a0_in_ a0_creds a0_uses a0_words a0_todo a0_n ((⟨a2.Who, a1.Word2⟩ : Role)) a1.Head)).bind fun r22 => some (r22.1, r22.2.1, r22.2.2)) else (if (a1.Kind == 4) then (((if (sN cQ (((cH bA a0_in_ a1.B).getD [])) a2.Who false) then some ((sN cQ (((cH bA a0_in_ a1.C).getD [])) a2.Who false)) else some false) : Option Bool).bind fun x69 => (if x69 then (((fQ a0_in_ a0_creds a0_uses a0_words a0_todo a0_n a1.Head a2.Who)).bind fun r77 => some (r77.1, r77.2.1, r77.2.2)) else some (a0_in_, a0_todo, a0_n))) else some (a0_in_, a0_todo, a0_n))))
noncomputable def gu (a0_creds : List Cred) (a0_uses : List (Role × (List Cred))) (a0_words : List (ByteArray × (List Cred))) (a1 : Cred) : List ByteArray → (List (Role × (List (ByteArray × Bool)))) → (List aT) → Int → Option (((List (Role × (List (ByteArray × Bool)))) × (List aT) × Int))
  | [], l143, l147, x150 => some (l143, l147, x150)
  | x118 :: xs119, l143, l147, x150 => (((kO l143 a0_creds a0_uses a0_words l147 x150 a1 ((⟨a1.B, x118⟩ : aT)))).bind fun r191 => (gu a0_creds a0_uses a0_words a1 xs119 r191.1 r191.2.1 r191.2.2))
noncomputable def lL (a0_in_ : List (Role × (List (ByteArray × Bool)))) (a0_creds : List Cred) (a0_uses : List (Role × (List Cred))) (a0_words : List (ByteArray × (List Cred))) (a0_todo : List aT) (a0_n : Int) (a1 : Cred) : Option (((List (Role × (List (ByteArray × Bool)))) × (List aT) × Int)) :=
  (if (a1.Kind == 1) then (((fQ a0_in_ a0_creds a0_uses a0_words a0_todo a0_n a1.Head a1.Who)).bind fun r4 => some (r4.1, r4.2.1, r4.2.2)) else (((jK a0_in_ a0_creds a0_uses a0_words a0_todo a0_n a1.B)).bind fun r19 => gu a0_creds a0_uses a0_words a1 r19 a0_in_ a0_todo a0_n))
noncomputable def eX (x2615 : aT) (a0_creds : List Cred) (a0_uses : List (Role × (List Cred))) (a0_words : List (ByteArray × (List Cred))) : List Cred → (List (Role × (List (ByteArray × Bool)))) → (List aT) → Int → Option (((List (Role × (List (ByteArray × Bool)))) × (List aT) × Int))
  | [], l2939, l2943, x2946 => some (l2939, l2943, x2946)
  | x2904 :: xs2905, l2939, l2943, x2946 => (if (sN cQ (((cH bA l2939 x2904.B).getD [])) x2615.Role.Owner false) then (((fQ l2939 a0_creds a0_uses a0_words l2943 x2946 x2904.Head x2615.Who)).bind fun r3007 => (eX x2615 a0_creds a0_uses a0_words xs2905 r3007.1 r3007.2.1 r3007.2.2)) else (eX x2615 a0_creds a0_uses a0_words xs2905 l2939 l2943 x2946))
noncomputable def fP (a0_creds : List Cred) (a0_uses : List (Role × (List Cred))) (a0_words : List (ByteArray × (List Cred))) (x2615 : aT) : List Cred → (List (Role × (List (ByteArray × Bool)))) → (List aT) → Int → Option (((List (Role × (List (ByteArray × Bool)))) × (List aT) × Int))
  | [], l3054, l3058, x3061 => some (l3054, l3058, x3061)
  | x3026 :: xs3027, l3054, l3058, x3061 => (((kO l3054 a0_creds a0_uses a0_words l3058 x3061 x3026 x2615)).bind fun r3108 => (fP a0_creds a0_uses a0_words x2615 xs3027 r3108.1 r3108.2.1 r3108.2.2))
noncomputable def eZ (a0_creds : List Cred) (a0_uses : List (Role × (List Cred))) (a0_words : List (ByteArray × (List Cred))) : Nat → (List (Role × (List (ByteArray × Bool)))) → (List aT) → Int → Option (((List (Role × (List (ByteArray × Bool)))) × (List aT) × Int))
  | 0, _, _, _ => none
  | n2608 + 1, l2075, l2079, x2082 => (if (decide (((l2079.length : Int)) > 0)) then (((dK l2079 0)).bind fun x2615 => (((nQ (decide (0 ≤ 1) && decide (1 ≤ (l2079.length : Int))))).bind fun _ => ((fP a0_creds a0_uses a0_words x2615 (((cH bA a0_uses x2615.Role).getD [])) l2075 ((l2079.drop (Int.toNat 1))) x2082 : Option (((List (Role × (List (ByteArray × Bool)))) × (List aT) × Int))).bind fun (l2740, l2744, x2747) => ((eX x2615 a0_creds a0_uses a0_words (((cH cQ a0_words x2615.Role.Word).getD [])) l2740 l2744 x2747 : Option (((List (Role × (List (ByteArray × Bool)))) × (List aT) × Int))).bind fun (l2888, l2892, x2895) => (eZ a0_creds a0_uses a0_words n2608 l2888 l2892 x2895))))) else some (l2075, l2079, x2082))
noncomputable def nH (a0_in_ : List (Role × (List (ByteArray × Bool)))) (a0_creds : List Cred) (a0_uses : List (Role × (List Cred))) (a0_words : List (ByteArray × (List Cred))) (a0_todo : List aT) (a0_n : Int) : Option (((List (Role × (List (ByteArray × Bool)))) × (List aT) × Int)) :=
  eZ a0_creds a0_uses a0_words cE a0_in_ a0_todo a0_n
noncomputable def fC (a0_n : Int) : List Cred → (List (Role × (List (ByteArray × Bool)))) → (List Cred) → (List (Role × (List Cred))) → (List (ByteArray × (List Cred))) → (List aT) → Int → Option ((Int × (List (Role × (List (ByteArray × Bool)))) × (List Cred) × (List (Role × (List Cred))) × (List (ByteArray × (List Cred))) × (List aT) × Int))
  | [], l508, l512, l515, l518, l522, x525 => (((nH l508 l512 l515 l518 l522 x525)).bind fun r777 => some ((IntKind.i64.wrap (r777.2.2 - a0_n)), r777.1, l512, l515, l518, r777.2.1, r777.2.2))
  | x390 :: xs391, l508, l512, l515, l518, l522, x525 => (((mC x390)).bind fun r720 => (((if r720 then (((qz l512 x390)).bind fun r774 => some ((!r774))) else some false) : Option Bool).bind fun x727 => (if x727 then (((lY l508 l512 l515 l518 l522 x525 x390)).bind fun r738 => (((lL l508 r738.1 r738.2.1 r738.2.2 l522 x525 x390)).bind fun r755 => (fC a0_n xs391 r755.1 r738.1 r738.2.1 r738.2.2 r755.2.1 r755.2.2))) else (fC a0_n xs391 l508 l512 l515 l518 l522 x525))))
noncomputable def mV (a0_in_ : List (Role × (List (ByteArray × Bool)))) (a0_creds : List Cred) (a0_uses : List (Role × (List Cred))) (a0_words : List (ByteArray × (List Cred))) (a0_todo : List aT) (a0_n : Int) (a1 : List Cred) : Option ((Int × (List (Role × (List (ByteArray × Bool)))) × (List Cred) × (List (Role × (List Cred))) × (List (ByteArray × (List Cred))) × (List aT) × Int)) :=
  fC a0_n a1 a0_in_ a0_creds a0_uses a0_words a0_todo a0_n
noncomputable def sF (a0 : List Cred) : Option (((List (Role × (List (ByteArray × Bool)))) × (List Cred) × (List (Role × (List Cred))) × (List (ByteArray × (List Cred))) × (List aT) × Int)) :=
  (((mV ([]) ([]) ([]) ([]) ([]) 0 a0)).bind fun r18 => some (r18.2.1, r18.2.2.1, r18.2.2.2.1, r18.2.2.2.2.1, r18.2.2.2.2.2.1, r18.2.2.2.2.2.2))
noncomputable def kW (a0 : aT) (a1 : aT) : Option Int :=
  (((iY a0.Role a1.Role)).bind fun r27 => (((jB a0.Who a1.Who)).bind fun r30 => (((pD ([r27, r30]))).bind fun r35 => some r35)))
noncomputable def rN (a0_in_ : List (Role × (List (ByteArray × Bool)))) (a0_creds : List Cred) (a0_uses : List (Role × (List Cred))) (a0_words : List (ByteArray × (List Cred))) (a0_todo : List aT) (a0_n : Int) : Option (List aT) :=
  ((Gu 48 (fun (a : Role) (b : ByteArray) => (⟨a, b⟩ : aT)) a0_in_).bind fun fs => yQ fs (fun l_f => (((uR (fun (x : (aT × aT)) => kW x.1 x.2) l_f)).bind fun r4 => some r4)))
noncomputable def pE (a0_in_ : List (Role × (List (ByteArray × Bool)))) (a0_creds : List Cred) (a0_uses : List (Role × (List Cred))) (a0_words : List (ByteArray × (List Cred))) (a0_todo : List aT) (a0_n : Int) (a1 : Role) (a2 : ByteArray) : Option Bool :=
  some (sN cQ (((cH bA a0_in_ a1).getD [])) a2 false)
noncomputable def iP  : List Cred → Int → Option Int
  | [], x47 => some x47
  | x35 :: xs36, x47 => (iP xs36 ((IntKind.i64.wrap (x47 + ((IntKind.i64.wrap (((IntKind.i64.wrap (((IntKind.i64.wrap (((IntKind.i64.wrap (((IntKind.i64.wrap (((IntKind.i64.wrap (((IntKind.i64.wrap (((IntKind.i64.wrap (20 + ((x35.Head.Owner.size : Int))))) + ((x35.Head.Word.size : Int))))) + ((x35.Who.size : Int))))) + ((x35.B.Owner.size : Int))))) + ((x35.B.Word.size : Int))))) + ((x35.C.Owner.size : Int))))) + ((x35.C.Word.size : Int))))) + ((x35.Word2.size : Int)))))))))
noncomputable def mO (a0 : List Cred) : Option Int :=
  iP a0 0
noncomputable def lE  : List Signed → Int → Option Int
  | [], x224 => some x224
  | x193 :: xs194, x224 => (((mO ([x193.Cred]))).bind fun r279 => (lE xs194 ((IntKind.i64.wrap (x224 + ((IntKind.i64.wrap (r279 + ((x193.Tag.length : Int))))))))))
noncomputable def jY (a1 : List Signed) : List Key → Int → Option Int
  | [], x65 => ((lE a1 x65 : Option Int).bind fun x185 => some x185)
  | x49 :: xs50, x65 => (jY a1 xs50 ((IntKind.i64.wrap (x65 + ((IntKind.i64.wrap (((IntKind.i64.wrap (10 + ((x49.Who.size : Int))))) + ((x49.Key.length : Int)))))))))
noncomputable def tH (a0 : List Key) (a1 : List Signed) : Option Int :=
  jY a1 a0 0
noncomputable def oX (a0 : ByteArray) : Nat → Int → Option Bool
  | 0, _ => none
  | n364 + 1, x293 => (if (decide (x293 < ((a0.size : Int)))) then (((vt a0 x293)).bind fun c368 => (((if (decide (((c368.toNat : Int)) < 97)) then some true else some ((decide (((c368.toNat : Int)) > 122)))) : Option Bool).bind fun x371 => (((if x371 then (((if (decide (((c368.toNat : Int)) < 48)) then some true else some ((decide (((c368.toNat : Int)) > 57)))) : Option Bool).bind fun x416 => some x416) else some false) : Option Bool).bind fun x392 => (((if x392 then some ((((c368.toNat : Int)) != 45)) else some false) : Option Bool).bind fun x400 => (if x400 then some false else (oX a0 n364 ((IntKind.i64.wrap (x293 + 1))))))))) else some true)
noncomputable def nW (a0 : ByteArray) : Option Bool :=
  (((if (cQ a0 zS) then some true else some ((decide (((a0.size : Int)) > 16)))) : Option Bool).bind fun x2 => (((if x2 then some true else (((vt a0 0)).bind fun c442 => some ((decide (((c442.toNat : Int)) < 97))))) : Option Bool).bind fun x10 => (((if x10 then some true else (((vt a0 0)).bind fun c436 => some ((decide (((c436.toNat : Int)) > 122))))) : Option Bool).bind fun x18 => (if x18 then some false else oX a0 cE 0))))
noncomputable def rq (a0 : Role) : Option Bool :=
  (((nW a0.Owner)).bind fun r3 => (((if r3 then (((nW a0.Word)).bind fun r19 => some r19) else some false) : Option Bool).bind fun x10 => some x10))
noncomputable def ul (a0 : Role) (a1 : Role) : Option Bool :=
  (((if (lS a0.Owner a1.Owner) then some true else (((if (cQ a0.Owner a1.Owner) then some ((lS a0.Word a1.Word)) else some false) : Option Bool).bind fun x27 => some x27)) : Option Bool).bind fun x17 => some x17)
noncomputable def tD (a0 : Cred) : Option Bool :=
  (((rq a0.Head)).bind fun r5 => (if (!r5) then some false else (if (a0.Kind == 1) then (((nW a0.Who)).bind fun r10 => (((if r10 then some ((bA a0.B ((⟨zS, zS⟩ : Role)))) else some false) : Option Bool).bind fun x14 => (((if x14 then some ((bA a0.C ((⟨zS, zS⟩ : Role)))) else some false) : Option Bool).bind fun x22 => (((if x22 then some ((cQ a0.Word2 zS)) else some false) : Option Bool).bind fun x29 => some x29)))) else (((if (!(cQ a0.Who zS)) then some true else (((rq a0.B)).bind fun r138 => some ((!r138)))) : Option Bool).bind fun x50 => (if x50 then some false else (if (a0.Kind == 2) then (((if (bA a0.C ((⟨zS, zS⟩ : Role))) then some ((cQ a0.Word2 zS)) else some false) : Option Bool).bind fun x59 => some x59) else (if (a0.Kind == 3) then (((if (bA a0.C ((⟨zS, zS⟩ : Role))) then some ((cQ a0.B.Owner a0.Head.Owner)) else some false) : Option Bool).bind fun x69 => (((if x69 then (((nW a0.Word2)).bind fun r86 => some r86) else some false) : Option Bool).bind fun x78 => some x78)) else (((if (a0.Kind == 4) then some ((cQ a0.Word2 zS)) else some false) : Option Bool).bind fun x94 => (((if x94 then (((rq a0.C)).bind fun r127 => some r127) else some false) : Option Bool).bind fun x103 => (((if x103 then (((ul a0.B a0.C)).bind fun r120 => some r120) else some false) : Option Bool).bind fun x112 => some x112))))))))))
noncomputable def ta  : Nat → Int → ByteArray → Option ByteArray
  | 0, _, _ => none
  | n45 + 1, x32, x33 => (if (decide (x32 ≥ 128)) then (((vW x33 ((xl ([(IntKind.u8.wrap ((IntKind.i64.wrap (128 + ((Int.tmod x32 128))))))]))))).bind fun s51 => (ta n45 ((IntKind.i64.wrap (Int.tdiv x32 128))) s51)) else (((vW x33 ((xl ([(IntKind.u8.wrap x32)]))))).bind fun s55 => some s55))
noncomputable def sH (a0 : Int) : Option ByteArray :=
  ta cE a0 zS
noncomputable def qS (a0 : ByteArray) : Option ByteArray :=
  (((sH ((a0.size : Int)))).bind fun r1 => (((vW r1 a0)).bind fun s4 => some s4))
noncomputable def rD (a0 : Role) : Option ByteArray :=
  (((qS a0.Owner)).bind fun r19 => (((qS a0.Word)).bind fun r22 => (((vW r19 r22)).bind fun s25 => some s25)))
noncomputable def yF (a0 : Cred) : Option ByteArray :=
  (((sH a0.Kind)).bind fun r19 => (((rD a0.Head)).bind fun r22 => (((vW r19 r22)).bind fun s25 => (if (a0.Kind == 1) then (((qS a0.Who)).bind fun r28 => (((vW s25 r28)).bind fun s31 => some s31)) else (((rD a0.B)).bind fun r33 => (((vW s25 r33)).bind fun s36 => (((if (a0.Kind == 3) then (((qS a0.Word2)).bind fun r72 => (((vW s36 r72)).bind fun s75 => some s75)) else some s36) : Option ByteArray).bind fun x44 => (((if (a0.Kind == 4) then (((rD a0.C)).bind fun r63 => (((vW x44 r63)).bind fun s66 => some s66)) else some x44) : Option ByteArray).bind fun x55 => some x55))))))))
noncomputable def tC (a0 : Cred) : Option ByteArray :=
  (((tD a0)).bind fun r3 => (if (!r3) then some zS else (((yF a0)).bind fun r7 => some r7)))
noncomputable def pU (a0 : Cred) (a1 : Cred) : Option Int :=
  (((tC a0)).bind fun r5 => (((tC a1)).bind fun r8 => (if (lS r5 r8) then some (-1) else (if (!(lS r5 r8 || cQ r5 r8)) then some 1 else some 0))))
noncomputable def oU (l11497 : List Cred) : List Cred → Bool → Cred → Option ((Bool × Cred))
  | [], x16301, x16302 => some (x16301, x16302)
  | x15828 :: xs15829, x16301, x16302 => (((tD x15828)).bind fun r17096 => (((if r17096 then (((if (((l11497.length : Int)) == 0) then some true else (((dK l11497 ((IntKind.i64.wrap (((l11497.length : Int)) - 1))))).bind fun x17246 => (((pU x17246 x15828)).bind fun r17248 => some ((decide (r17248 < 0)))))) : Option Bool).bind fun x17226 => some x17226) else some false) : Option Bool).bind fun x17134 => (((if x17134 then (((if (!x16301) then some true else (((pU x15828 x16302)).bind fun r17210 => some ((decide (r17210 < 0))))) : Option Bool).bind fun x17193 => some x17193) else some false) : Option Bool).bind fun x17171 => (if x17171 then (oU l11497 xs15829 true x15828) else (oU l11497 xs15829 x16301 x16302)))))
noncomputable def sK (a0 : List Cred) : Nat → (List Cred) → Option (List Cred)
  | 0, _ => none
  | n14378 + 1, l11497 => ((oU l11497 a0 false ((⟨0, (⟨zS, zS⟩ : Role), zS, (⟨zS, zS⟩ : Role), (⟨zS, zS⟩ : Role), zS⟩ : Cred)) : Option ((Bool × Cred))).bind fun (x15807, x15808) => (if (!x15807) then some l11497 else (((fK 136 l11497 ([x15808]))).bind fun l15818 => (sK a0 n14378 l15818))))
noncomputable def An (a0 : List Cred) : Option (List Cred) :=
  sK a0 cE ([])
noncomputable def oT (a1 : Cred) : List Cred → Option Bool
  | [] => some false
  | x38 :: xs39 => (if (fB x38 a1) then some true else (oT a1 xs39))
noncomputable def th (a0 : List Cred) (a1 : Cred) : Option Bool :=
  oT a1 a0
noncomputable def oP (l3289 : List ByteArray) : List ByteArray → ByteArray → Option ByteArray
  | [], x4673 => some x4673
  | x4540 :: xs4541, x4673 => (((nW x4540)).bind fun r4815 => (((if r4815 then (((if (((l3289.length : Int)) == 0) then some true else (((dK l3289 ((IntKind.i64.wrap (((l3289.length : Int)) - 1))))).bind fun x4937 => some ((!(lS x4540 x4937 || cQ x4540 x4937))))) : Option Bool).bind fun x4918 => some x4918) else some false) : Option Bool).bind fun x4846 => (((if x4846 then (((if (cQ x4673 zS) then some true else some ((lS x4540 x4673))) : Option Bool).bind fun x4892 => some x4892) else some false) : Option Bool).bind fun x4875 => (if x4875 then (oP l3289 xs4541 x4540) else (oP l3289 xs4541 x4673)))))
noncomputable def sD (a0 : List ByteArray) : Nat → (List ByteArray) → Option (List ByteArray)
  | 0, _ => none
  | n4118 + 1, l3289 => ((oP l3289 a0 zS : Option ByteArray).bind fun x4521 => (if (cQ x4521 zS) then some l3289 else (((fK 16 l3289 ([x4521]))).bind fun l4530 => (sD a0 n4118 l4530))))
noncomputable def xe (a0 : List ByteArray) : Option (List ByteArray) :=
  sD a0 cE ([])
noncomputable def pH  : List Cred → (List ByteArray) → Option (List ByteArray)
  | [], l86 => (((xe l86)).bind fun r127 => some r127)
  | x65 :: xs66, l86 => (((fK 16 l86 ([x65.Who, x65.Head.Owner, x65.B.Owner, x65.C.Owner]))).bind fun l121 => (pH xs66 l121))
noncomputable def vv (a0 : List Cred) : Option (List ByteArray) :=
  pH a0 ([])
noncomputable def tI (a1 : Role) (a2 : ByteArray) : List aT → Option Bool
  | [] => some false
  | x82 :: xs83 => (((if (bA x82.Role a1) then some ((cQ x82.Who a2)) else some false) : Option Bool).bind fun x145 => (if x145 then some true else (tI a1 a2 xs83)))
noncomputable def ri (a0 : List aT) (a1 : Role) (a2 : ByteArray) : Option Bool :=
  tI a1 a2 a0
noncomputable def rV (a0 : List aT) (a1 : Cred) (a3 : ByteArray) : List ByteArray → Option Bool
  | [] => some false
  | x130 :: xs131 => (((ri a0 a1.B x130)).bind fun r205 => (((if r205 then (((ri a0 ((⟨x130, a1.Word2⟩ : Role)) a3)).bind fun r227 => some r227) else some false) : Option Bool).bind fun x212 => (if x212 then some true else (rV a0 a1 a3 xs131))))
noncomputable def wo (a0 : List aT) (a1 : Cred) (a2 : List ByteArray) (a3 : ByteArray) : Option Bool :=
  (if (a1.Kind == 1) then some (cQ a1.Who a3) else (if (a1.Kind == 2) then (((ri a0 a1.B a3)).bind fun r5 => some r5) else (if (a1.Kind == 4) then (((ri a0 a1.B a3)).bind fun r9 => (((if r9 then (((ri a0 a1.C a3)).bind fun r25 => some r25) else some false) : Option Bool).bind fun x16 => some x16)) else rV a0 a1 a3 a2)))
noncomputable def qR (a0 : aT) (a1 : aT) : Option Bool :=
  (((ul a0.Role a1.Role)).bind fun r5 => (((if r5 then some true else (((if (bA a0.Role a1.Role) then some ((lS a0.Who a1.Who)) else some false) : Option Bool).bind fun x30 => some x30)) : Option Bool).bind fun x20 => some x20))
noncomputable def kE (l9338 : List aT) (a0 : List aT) : List aT → Nat → Int → Option Int
  | [], _, x13237 => some x13237
  | x12855 :: xs12856, i12854, x13237 => (((if (((l9338.length : Int)) == 0) then some true else (((dK l9338 ((IntKind.i64.wrap (((l9338.length : Int)) - 1))))).bind fun x14000 => (((qR x14000 x12855)).bind fun r14002 => some r14002))) : Option Bool).bind fun x13890 => (((if x13890 then (((if (decide (x13237 < 0)) then some true else (((dK a0 x13237)).bind fun x13988 => (((qR x12855 x13988)).bind fun r13990 => some r13990))) : Option Bool).bind fun x13967 => some x13967) else some false) : Option Bool).bind fun x13940 => (if x13940 then (kE l9338 a0 xs12856 (i12854 + 1) ((i12854 : Int))) else (kE l9338 a0 xs12856 (i12854 + 1) x13237))))
noncomputable def kD (a0 : List aT) : List aT → (List aT) → Option (List aT)
  | [], l9338 => some l9338
  | x7004 :: xs7005, l9338 => ((kE l9338 a0 a0 0 ((-1)) : Option Int).bind fun x12829 => (if (decide (x12829 ≥ 0)) then (((dK a0 x12829)).bind fun x12841 => (((fK 48 l9338 ([x12841]))).bind fun l12845 => (kD a0 xs7005 l12845))) else (kD a0 xs7005 l9338)))
noncomputable def xR (a0 : List aT) : Option (List aT) :=
  kD a0 a0 ([])
noncomputable def rr (x12034 : Cred) (r10 : List ByteArray) : List ByteArray → (List aT) → Bool → Option (((List aT) × Bool))
  | [], l12996, x12999 => some (l12996, x12999)
  | x12947 :: xs12948, l12996, x12999 => (((ri l12996 x12034.Head x12947)).bind fun r13070 => (((if (!r13070) then (((wo l12996 x12034 r10 x12947)).bind fun r13106 => some r13106) else some false) : Option Bool).bind fun x13077 => (if x13077 then (((fK 48 l12996 ([(⟨x12034.Head, x12947⟩ : aT)]))).bind fun l13096 => (rr x12034 r10 xs12948 l13096 true)) else (rr x12034 r10 xs12948 l12996 x12999))))
noncomputable def tL (r10 : List ByteArray) : List Cred → (List aT) → Bool → Option (((List aT) × Bool))
  | [], l12390, x12393 => some (l12390, x12393)
  | x12034 :: xs12035, l12390, x12393 => ((rr x12034 r10 r10 l12390 x12393 : Option (((List aT) × Bool))).bind fun (l12930, x12933) => (tL r10 xs12035 l12930 x12933))
noncomputable def tK (r10 : List ByteArray) (r1 : List Cred) : Nat → (List aT) → Option (List aT)
  | 0, _ => none
  | n10929 + 1, l8741 => ((tL r10 r1 l8741 false : Option (((List aT) × Bool))).bind fun (l12010, x12013) => (if (!x12013) then (((xR l12010)).bind fun r12021 => some r12021) else (tK r10 r1 n10929 l12010)))
noncomputable def vC (a0 : List Cred) : Option (List aT) :=
  (((An a0)).bind fun r1 => (((vv r1)).bind fun r10 => tK r10 r1 cE ([])))
noncomputable def qJ (a0 : List Cred) (a1 : ByteArray) : Option (((List (Role × (List (ByteArray × Bool)))) × (List Cred) × (List (Role × (List Cred))) × (List (ByteArray × (List Cred))) × (List aT) × Int × ByteArray)) :=
  (((sF a0)).bind fun r3 => some (r3.1, r3.2.1, r3.2.2.1, r3.2.2.2.1, r3.2.2.2.2.1, r3.2.2.2.2.2, a1))
noncomputable def eK (f1 : bK → Option Bool) : List bK → Nat → Option Int
  | [], _ => some (-1)
  | x48 :: xs49, i47 => (((f1 x48)).bind fun r89 => (if r89 then some (i47 : Int) else (eK f1 xs49 (i47 + 1))))
noncomputable def gL (a0 : List bK) (f1 : bK → Option Bool) : Option Int :=
  eK f1 a0 0
noncomputable def pR (a0 : bK) (c0 : Cred) : Option Bool :=
  some (fB a0.Signed.Cred c0)
noncomputable def sk (a0 : cG) (a1 : Cred) : Option ((bK × Bool)) :=
  (((gL a0.Creds (fun (x : bK) => pR x a1))).bind fun r11 => (if (decide (r11 < 0)) then some ((⟨(⟨(⟨0, (⟨zS, zS⟩ : Role), zS, (⟨zS, zS⟩ : Role), (⟨zS, zS⟩ : Role), zS⟩ : Cred), []⟩ : Signed), (⟨0, 0, (⟨zS, zS⟩ : Role), []⟩ : aB)⟩ : bK), false) else (((dK a0.Creds r11)).bind fun x20 => some (x20, true))))
noncomputable def pZ (a0 : List eO) : Option (List eO) :=
  (((fK 128 ([]) a0)).bind fun l8 => some l8)
noncomputable def eY (f1 : eO → Option Bool) : List eO → Nat → Option Int
  | [], _ => some (-1)
  | x48 :: xs49, i47 => (((f1 x48)).bind fun r89 => (if r89 then some (i47 : Int) else (eY f1 xs49 (i47 + 1))))
noncomputable def iX (a0 : List eO) (f1 : eO → Option Bool) : Option Int :=
  eY f1 a0 0
noncomputable def fI (f1 : eO → Option Bool) : Nat → (List eO) → Int → Int → Option (List eO)
  | 0, _, _, _ => none
  | n465 + 1, l365, x368, x369 => (if (decide (x369 < ((l365.length : Int)))) then (((((dK l365 x369)).bind fun x522 => (((f1 x522)).bind fun r536 => (if (!r536) then (((dK l365 x368)).bind fun x543 => some (((l365.set (Int.toNat x368) x522)), ((IntKind.i64.wrap (x368 + 1))))) else some (l365, x368)))) : Option (((List eO) × Int))).bind fun (l506, x509) => (fI f1 n465 l506 x509 ((IntKind.i64.wrap (x369 + 1))))) else (((nQ (decide (0 ≤ x368) && decide (x368 ≤ (l365.length : Int))))).bind fun _ => (((nQ (decide (0 ≤ x368) && decide (x368 ≤ (((iT l365 (Int.toNat x368) (⟨(⟨zS, zS⟩ : Role), (⟨0, 0, (⟨zS, zS⟩ : Role), []⟩ : aB), []⟩ : eO))).length : Int))))).bind fun _ => some (((iT l365 (Int.toNat x368) (⟨(⟨zS, zS⟩ : Role), (⟨0, 0, (⟨zS, zS⟩ : Role), []⟩ : aB), []⟩ : eO))).take (Int.toNat x368)))))
noncomputable def kC (a0 : List eO) (f1 : eO → Option Bool) : Option (List eO) :=
  (((iX a0 f1)).bind fun r1 => (if (r1 == ((-1))) then some a0 else fI f1 cE a0 r1 ((IntKind.i64.wrap (r1 + 1)))))
noncomputable def lD (a0 : eO) (c0 : Cred) : Option Bool :=
  (((qz a0.Closure c0)).bind fun r7 => some (!r7))
noncomputable def pQ (a0 : cG) (a1 : Cred) : Option (List eO) :=
  (((pZ a0.Acks)).bind fun r9 => (((kC r9 (fun (x : eO) => lD x a1))).bind fun r27 => some r27))
noncomputable def gN (a1 : Int) (rec : aB → Int → Option ((Int × Int))) : List aB → Int → Int → Option ((Int × Int))
  | [], x98, x99 => some (x98, x99)
  | x78 :: xs79, x98, x99 => (if (decide (x98 > a1)) then some (x98, x99) else (((rec x78 ((IntKind.i64.wrap (a1 - x98))))).bind fun r137 => (gN a1 rec xs79 ((IntKind.i64.wrap (x98 + r137.1))) ((if r137.2 > x99 then r137.2 else x99)))))
noncomputable def oD (rec : aB → Int → Option ((Int × Int))) (a0 : aB) (a1 : Int) : Option ((Int × Int)) :=
  ((gN a1 rec a0.Kids 1 0 : Option ((Int × Int))).bind fun (x68, x69) => some (x68, (IntKind.i64.wrap (x69 + 1))))
noncomputable def iH : Nat → aB → Int → Option ((Int × Int))
  | 0 => fun _ _ => none
  | n + 1 => oD (iH n)
noncomputable def qV (a0 : aB) : Option ((Int × Int)) :=
  (((iH cE a0 4096)).bind fun r5 => (if (decide (r5.1 > 4096)) then some (0, 0) else some (r5.1, r5.2)))
noncomputable def qU (a0 : aB) : Option Bool :=
  (if (a0.Op == 1) then (((iR a0.Role)).bind fun r55 => (((if r55 then some ((((a0.Kids.length : Int)) == 0)) else some false) : Option Bool).bind fun x59 => (((if x59 then some ((a0.K == 0)) else some false) : Option Bool).bind fun x66 => some x66))) else (((if (a0.Op == 2) then some ((a0.Op == 2)) else some ((a0.Op == 3))) : Option Bool).bind fun x80 => (if x80 then (((if (bA a0.Role ((⟨zS, zS⟩ : Role))) then some ((a0.K == 0)) else some false) : Option Bool).bind fun x88 => some x88) else (((if (a0.Op == 4) then some ((bA a0.Role ((⟨zS, zS⟩ : Role)))) else some false) : Option Bool).bind fun x97 => (((if x97 then some ((decide (a0.K ≥ 0))) else some false) : Option Bool).bind fun x103 => (((if x103 then some ((decide (a0.K ≤ ((a0.Kids.length : Int))))) else some false) : Option Bool).bind fun x109 => (((if x109 then some ((decide (((a0.Kids.length : Int)) ≥ 1))) else some false) : Option Bool).bind fun x115 => some x115)))))))
noncomputable def eL (f1 : aB → Option Bool) : List aB → Nat → Option Int
  | [], _ => some (-1)
  | x42 :: xs43, i41 => (((f1 x42)).bind fun r77 => (if r77 then some (i41 : Int) else (eL f1 xs43 (i41 + 1))))
noncomputable def lB (a0 : List aB) (f1 : aB → Option Bool) : Option Int :=
  eL f1 a0 0
noncomputable def fN (a0 : List aB) (f1 : aB → Option Bool) : Option Bool :=
  (((lB a0 f1)).bind fun r1 => some (decide (r1 ≥ 0)))
noncomputable def nI (rec : aB → Option Bool) (a0 : aB) : Option Bool :=
  (((rec a0)).bind fun r5 => some (!r5))
noncomputable def oI (rec : aB → Option Bool) (a0 : aB) : Option Bool :=
  (((qU a0)).bind fun r5 => (((if r5 then some ((decide (((a0.Kids.length : Int)) ≤ 8))) else some false) : Option Bool).bind fun x9 => (((if x9 then (((fN a0.Kids (fun (x : aB) => nI rec x))).bind fun r28 => some ((!r28))) else some false) : Option Bool).bind fun x19 => some x19)))
noncomputable def mD : Nat → aB → Option Bool
  | 0 => fun _ => none
  | n + 1 => oI (mD n)
noncomputable def gP (a0 : aB) : Option Bool :=
  (((qV a0)).bind fun r5 => (((if (decide (r5.1 ≥ 1)) then some ((decide (r5.1 ≤ 64))) else some false) : Option Bool).bind fun x9 => (((if x9 then some ((decide (r5.2 ≤ 6))) else some false) : Option Bool).bind fun x17 => (((if x17 then (((mD cE a0)).bind fun r36 => some r36) else some false) : Option Bool).bind fun x27 => some x27))))
noncomputable def nA (a0 : aB) (a1 : Int) : Option Bool :=
  (((if (a0.Op == a1) then some ((((a0.Kids.length : Int)) == 0)) else some false) : Option Bool).bind fun x6 => some x6)
noncomputable def rT  : Option aB :=
  some (⟨2, 0, (⟨zS, zS⟩ : Role), []⟩ : aB)
noncomputable def sG  : Option aB :=
  some (⟨3, 0, (⟨zS, zS⟩ : Role), []⟩ : aB)
noncomputable def iQ (a0 : Int) : List aB → (List aB) → Option (List aB)
  | [], l132 => some l132
  | x100 :: xs101, l132 => (if (x100.Op == a0) then (((fK 72 l132 x100.Kids)).bind fun l183 => (iQ a0 xs101 l183)) else (((fK 72 l132 ([x100]))).bind fun l191 => (iQ a0 xs101 l191)))
noncomputable def tz (a0 : Int) (a1 : List aB) : Option (List aB) :=
  iQ a0 a1 ([])
noncomputable def jJ (a0 : aB) (c0 : Int) : Option Bool :=
  (((nA a0 c0)).bind fun r5 => some r5)
noncomputable def nG (a0 : List aB) : Option (List aB) :=
  (((fK 72 ([]) a0)).bind fun l8 => some l8)
noncomputable def cY (a1 : Int) (f3 : ((aB × aB)) → Option Int) : Nat → (List aB) → Int → Option (List aB)
  | 0, _, _ => none
  | n10440 + 1, l10137, x10140 => (((if (decide (x10140 > a1)) then (((dK l10137 x10140)).bind fun x10717 => (((dK l10137 ((IntKind.i64.wrap (x10140 - 1))))).bind fun x10725 => (((f3 ((x10717, x10725)))).bind fun r10730 => some ((decide (r10730 < 0)))))) else some false) : Option Bool).bind fun x10573 => (if x10573 then (((dK l10137 ((IntKind.i64.wrap (x10140 - 1))))).bind fun x10671 => (((dK l10137 x10140)).bind fun x10679 => (((dK l10137 x10140)).bind fun x10687 => (((dK ((l10137.set (Int.toNat x10140) x10671)) ((IntKind.i64.wrap (x10140 - 1))))).bind fun x10700 => (cY a1 f3 n10440 ((((l10137.set (Int.toNat x10140) x10671)).set (Int.toNat ((IntKind.i64.wrap (x10140 - 1)))) ((⟨x10679.Op, x10679.K, x10679.Role, x10679.Kids⟩ : aB)))) ((IntKind.i64.wrap (x10140 - 1)))))))) else some l10137))
noncomputable def cM (a2 : Int) (a1 : Int) (f3 : ((aB × aB)) → Option Int) : Nat → (List aB) → Int → Option (List aB)
  | 0, _, _ => none
  | n8946 + 1, l7149, x7152 => (if (decide (x7152 < a2)) then ((cY a1 f3 cE l7149 x7152 : Option (List aB)).bind fun l9837 => (cM a2 a1 f3 n8946 l9837 ((IntKind.i64.wrap (x7152 + 1))))) else some l7149)
noncomputable def eM (a0 : List aB) (a1 : Int) (a2 : Int) (f3 : ((aB × aB)) → Option Int) : Option (List aB) :=
  cM a2 a1 f3 cE a0 ((IntKind.i64.wrap (a1 + 1)))
noncomputable def dI (a3 : Int) (a2 : Int) (a1 : Int) : Nat → (List aB) → Int → Option (List aB)
  | 0, _, _ => none
  | n676 + 1, l533, x536 => (if (decide (x536 < a3)) then (((dK l533 ((IntKind.i64.wrap (a2 + x536))))).bind fun x770 => (((dK l533 ((IntKind.i64.wrap (a1 + x536))))).bind fun x778 => (((dK l533 ((IntKind.i64.wrap (a1 + x536))))).bind fun x786 => (((dK ((l533.set (Int.toNat ((IntKind.i64.wrap (a1 + x536)))) x770)) ((IntKind.i64.wrap (a2 + x536))))).bind fun x799 => (dI a3 a2 a1 n676 ((((l533.set (Int.toNat ((IntKind.i64.wrap (a1 + x536)))) x770)).set (Int.toNat ((IntKind.i64.wrap (a2 + x536)))) ((⟨x778.Op, x778.K, x778.Role, x778.Kids⟩ : aB)))) ((IntKind.i64.wrap (x536 + 1)))))))) else some l533)
noncomputable def eJ (a0 : List aB) (a1 : Int) (a2 : Int) (a3 : Int) (f4 : ((aB × aB)) → Option Int) : Option (List aB) :=
  dI a3 a2 a1 cE a0 0
noncomputable def dV (a2 : Int) (f4 : ((aB × aB)) → Option Int) : Nat → (List aB) → Int → Int → Option (List aB)
  | 0, _, _, _ => none
  | n185 + 1, l138, x141, x142 => (if (x141 != x142) then (if (decide (x141 > x142)) then (((eJ l138 ((IntKind.i64.wrap (a2 - x141))) a2 x142 f4)).bind fun r195 => (dV a2 f4 n185 r195 ((IntKind.i64.wrap (x141 - x142))) x142)) else (((eJ l138 ((IntKind.i64.wrap (a2 - x141))) ((IntKind.i64.wrap (((IntKind.i64.wrap (a2 + x142))) - x141))) x141 f4)).bind fun r207 => (dV a2 f4 n185 r207 x141 ((IntKind.i64.wrap (x142 - x141)))))) else (((eJ l138 ((IntKind.i64.wrap (a2 - x141))) a2 x141 f4)).bind fun r219 => some r219))
noncomputable def eF (a0 : List aB) (a1 : Int) (a2 : Int) (a3 : Int) (f4 : ((aB × aB)) → Option Int) : Option (List aB) :=
  dV a2 f4 cE a0 ((IntKind.i64.wrap (a2 - a1))) ((IntKind.i64.wrap (a3 - a2)))
noncomputable def dM (x255 : Int) : Nat → (List aB) → Int → Option (List aB)
  | 0, _, _ => none
  | n1068 + 1, l927, x930 => (if (decide (x930 < ((IntKind.i64.wrap (x255 - 1))))) then (((dK l927 ((IntKind.i64.wrap (x930 + 1))))).bind fun x1160 => (((dK l927 x930)).bind fun x1168 => (((dK l927 x930)).bind fun x1176 => (((dK ((l927.set (Int.toNat x930) x1160)) ((IntKind.i64.wrap (x930 + 1))))).bind fun x1189 => (dM x255 n1068 ((((l927.set (Int.toNat x930) x1160)).set (Int.toNat ((IntKind.i64.wrap (x930 + 1)))) ((⟨x1168.Op, x1168.K, x1168.Role, x1168.Kids⟩ : aB)))) ((IntKind.i64.wrap (x930 + 1)))))))) else some l927)
noncomputable def cJ (a0 : List aB) (a1 : Int) (f4 : ((aB × aB)) → Option Int) : Nat → Int → Int → Option (List aB)
  | 0, _, _ => none
  | n325 + 1, x255, x256 => (if (decide (x255 < x256)) then (((dK a0 ((IntKind.i64.wrap ((Int.fdiv ((IntKind.u64.wrap ((IntKind.i64.wrap (x255 + x256))))) (2 ^ min (Int.toNat 1) (IntKind.bits .u64)))))))).bind fun x373 => (((dK a0 a1)).bind fun x381 => (((f4 ((x373, x381)))).bind fun r386 => (if (decide (r386 < 0)) then (cJ a0 a1 f4 n325 ((IntKind.i64.wrap (((IntKind.i64.wrap ((Int.fdiv ((IntKind.u64.wrap ((IntKind.i64.wrap (x255 + x256))))) (2 ^ min (Int.toNat 1) (IntKind.bits .u64)))))) + 1))) x256) else (cJ a0 a1 f4 n325 x255 ((IntKind.i64.wrap ((Int.fdiv ((IntKind.u64.wrap ((IntKind.i64.wrap (x255 + x256))))) (2 ^ min (Int.toNat 1) (IntKind.bits .u64))))))))))) else ((dM x255 cE a0 a1 : Option (List aB)).bind fun l791 => some l791))
noncomputable def dN (x1453 : Int) : Nat → (List aB) → Int → Option (List aB)
  | 0, _, _ => none
  | n2266 + 1, l2125, x2128 => (if (decide (x2128 > x1453)) then (((dK l2125 ((IntKind.i64.wrap (x2128 - 1))))).bind fun x2358 => (((dK l2125 x2128)).bind fun x2366 => (((dK l2125 x2128)).bind fun x2374 => (((dK ((l2125.set (Int.toNat x2128) x2358)) ((IntKind.i64.wrap (x2128 - 1))))).bind fun x2387 => (dN x1453 n2266 ((((l2125.set (Int.toNat x2128) x2358)).set (Int.toNat ((IntKind.i64.wrap (x2128 - 1)))) ((⟨x2366.Op, x2366.K, x2366.Role, x2366.Kids⟩ : aB)))) ((IntKind.i64.wrap (x2128 - 1)))))))) else some l2125)
noncomputable def cK (a0 : List aB) (a2 : Int) (f4 : ((aB × aB)) → Option Int) : Nat → Int → Int → Option (List aB)
  | 0, _, _ => none
  | n1523 + 1, x1453, x1454 => (if (decide (x1453 < x1454)) then (((dK a0 a2)).bind fun x1571 => (((dK a0 ((IntKind.i64.wrap ((Int.fdiv ((IntKind.u64.wrap ((IntKind.i64.wrap (x1453 + x1454))))) (2 ^ min (Int.toNat 1) (IntKind.bits .u64)))))))).bind fun x1579 => (((f4 ((x1571, x1579)))).bind fun r1584 => (if (!((decide (r1584 < 0)))) then (cK a0 a2 f4 n1523 ((IntKind.i64.wrap (((IntKind.i64.wrap ((Int.fdiv ((IntKind.u64.wrap ((IntKind.i64.wrap (x1453 + x1454))))) (2 ^ min (Int.toNat 1) (IntKind.bits .u64)))))) + 1))) x1454) else (cK a0 a2 f4 n1523 x1453 ((IntKind.i64.wrap ((Int.fdiv ((IntKind.u64.wrap ((IntKind.i64.wrap (x1453 + x1454))))) (2 ^ min (Int.toNat 1) (IntKind.bits .u64))))))))))) else ((dN x1453 cE a0 a2 : Option (List aB)).bind fun l1989 => some l1989))
noncomputable def bZ (a0 : List aB) (a1 : Int) (a3 : Int) (a2 : Int) (f4 : ((aB × aB)) → Option Int) (rec : (List aB) → Int → Int → Int → (((aB × aB)) → Option Int) → Option (List aB)) : Nat → Int → Int → Option (List aB)
  | 0, _, _ => none
  | n2749 + 1, x2674, x2675 => (if (decide (x2674 < x2675)) then (((dK a0 ((IntKind.i64.wrap (((IntKind.i64.wrap (((IntKind.i64.wrap (((IntKind.i64.wrap ((Int.fdiv ((IntKind.u64.wrap ((IntKind.i64.wrap (a1 + a3))))) (2 ^ min (Int.toNat 1) (IntKind.bits .u64)))))) + a2))) - 1))) - ((IntKind.i64.wrap ((Int.fdiv ((IntKind.u64.wrap ((IntKind.i64.wrap (x2674 + x2675))))) (2 ^ min (Int.toNat 1) (IntKind.bits .u64))))))))))).bind fun x2802 => (((dK a0 ((IntKind.i64.wrap ((Int.fdiv ((IntKind.u64.wrap ((IntKind.i64.wrap (x2674 + x2675))))) (2 ^ min (Int.toNat 1) (IntKind.bits .u64)))))))).bind fun x2810 => (((f4 ((x2802, x2810)))).bind fun r2815 => (if (!((decide (r2815 < 0)))) then (bZ a0 a1 a3 a2 f4 rec n2749 ((IntKind.i64.wrap (((IntKind.i64.wrap ((Int.fdiv ((IntKind.u64.wrap ((IntKind.i64.wrap (x2674 + x2675))))) (2 ^ min (Int.toNat 1) (IntKind.bits .u64)))))) + 1))) x2675) else (bZ a0 a1 a3 a2 f4 rec n2749 x2674 ((IntKind.i64.wrap ((Int.fdiv ((IntKind.u64.wrap ((IntKind.i64.wrap (x2674 + x2675))))) (2 ^ min (Int.toNat 1) (IntKind.bits .u64))))))))))) else (((((if (decide (x2674 < a2)) then some ((decide (a2 < ((IntKind.i64.wrap (((IntKind.i64.wrap (((IntKind.i64.wrap ((Int.fdiv ((IntKind.u64.wrap ((IntKind.i64.wrap (a1 + a3))))) (2 ^ min (Int.toNat 1) (IntKind.bits .u64)))))) + a2))) - x2674)))))) else some false) : Option Bool).bind fun x2971 => (if x2971 then (((eF a0 x2674 a2 ((IntKind.i64.wrap (((IntKind.i64.wrap (((IntKind.i64.wrap ((Int.fdiv ((IntKind.u64.wrap ((IntKind.i64.wrap (a1 + a3))))) (2 ^ min (Int.toNat 1) (IntKind.bits .u64)))))) + a2))) - x2674))) f4)).bind fun r2984 => some r2984) else some a0)) : Option (List aB)).bind fun l2851 => (((((if (decide (a1 < x2674)) then some ((decide (x2674 < ((IntKind.i64.wrap ((Int.fdiv ((IntKind.u64.wrap ((IntKind.i64.wrap (a1 + a3))))) (2 ^ min (Int.toNat 1) (IntKind.bits .u64))))))))) else some false) : Option Bool).bind fun x2939 => (if x2939 then (((rec l2851 a1 x2674 ((IntKind.i64.wrap ((Int.fdiv ((IntKind.u64.wrap ((IntKind.i64.wrap (a1 + a3))))) (2 ^ min (Int.toNat 1) (IntKind.bits .u64)))))) f4)).bind fun r2951 => some r2951) else some l2851)) : Option (List aB)).bind fun l2896 => (((if (decide (((IntKind.i64.wrap ((Int.fdiv ((IntKind.u64.wrap ((IntKind.i64.wrap (a1 + a3))))) (2 ^ min (Int.toNat 1) (IntKind.bits .u64)))))) < ((IntKind.i64.wrap (((IntKind.i64.wrap (((IntKind.i64.wrap ((Int.fdiv ((IntKind.u64.wrap ((IntKind.i64.wrap (a1 + a3))))) (2 ^ min (Int.toNat 1) (IntKind.bits .u64)))))) + a2))) - x2674))))) then some ((decide (((IntKind.i64.wrap (((IntKind.i64.wrap (((IntKind.i64.wrap ((Int.fdiv ((IntKind.u64.wrap ((IntKind.i64.wrap (a1 + a3))))) (2 ^ min (Int.toNat 1) (IntKind.bits .u64)))))) + a2))) - x2674))) < a3))) else some false) : Option Bool).bind fun x2909 => (if x2909 then (((rec l2896 ((IntKind.i64.wrap ((Int.fdiv ((IntKind.u64.wrap ((IntKind.i64.wrap (a1 + a3))))) (2 ^ min (Int.toNat 1) (IntKind.bits .u64)))))) ((IntKind.i64.wrap (((IntKind.i64.wrap (((IntKind.i64.wrap ((Int.fdiv ((IntKind.u64.wrap ((IntKind.i64.wrap (a1 + a3))))) (2 ^ min (Int.toNat 1) (IntKind.bits .u64)))))) + a2))) - x2674))) a3 f4)).bind fun r2919 => some r2919) else some l2896)))))
noncomputable def gK (rec : (List aB) → Int → Int → Int → (((aB × aB)) → Option Int) → Option (List aB)) (a0 : List aB) (a1 : Int) (a2 : Int) (a3 : Int) (f4 : ((aB × aB)) → Option Int) : Option (List aB) :=
  (if (((IntKind.i64.wrap (a2 - a1))) == 1) then cJ a0 a1 f4 cE a2 a3 else (if (((IntKind.i64.wrap (a3 - a2))) == 1) then cK a0 a2 f4 cE a1 a2 else (((if (decide (a2 > ((IntKind.i64.wrap ((Int.fdiv ((IntKind.u64.wrap ((IntKind.i64.wrap (a1 + a3))))) (2 ^ min (Int.toNat 1) (IntKind.bits .u64)))))))) then some (((IntKind.i64.wrap (((IntKind.i64.wrap (((IntKind.i64.wrap ((Int.fdiv ((IntKind.u64.wrap ((IntKind.i64.wrap (a1 + a3))))) (2 ^ min (Int.toNat 1) (IntKind.bits .u64)))))) + a2))) - a3))), ((IntKind.i64.wrap ((Int.fdiv ((IntKind.u64.wrap ((IntKind.i64.wrap (a1 + a3))))) (2 ^ min (Int.toNat 1) (IntKind.bits .u64))))))) else some (a1, a2)) : Option ((Int × Int))).bind fun (x2398, x2399) => bZ a0 a1 a3 a2 f4 rec cE x2398 x2399)))
noncomputable def cZ : Nat → (List aB) → Int → Int → Int → (((aB × aB)) → Option Int) → Option (List aB)
  | 0 => fun _ _ _ _ _ => none
  | n + 1 => gK (cZ n)
noncomputable def dT (a1 : Int) (x1021 : Int) (f2 : ((aB × aB)) → Option Int) : Nat → (List aB) → Int → Int → Option (((List aB) × Int))
  | 0, _, _, _ => none
  | n1431 + 1, l1396, x1399, x1400 => (if (decide (x1400 ≤ a1)) then (((cZ cE l1396 x1399 ((IntKind.i64.wrap (x1399 + x1021))) x1400 f2)).bind fun r1441 => (dT a1 x1021 f2 n1431 r1441 x1400 ((IntKind.i64.wrap (x1400 + ((IntKind.i64.wrap (2 * x1021)))))))) else some (l1396, x1399))
noncomputable def dF (a1 : Int) (f2 : ((aB × aB)) → Option Int) : Nat → (List aB) → Int → Option (List aB)
  | 0, _, _ => none
  | n1241 + 1, l1018, x1021 => (if (decide (x1021 < a1)) then ((dT a1 x1021 f2 cE l1018 0 ((IntKind.i64.wrap (2 * x1021))) : Option (((List aB) × Int))).bind fun (l1323, x1326) => (((if (decide (((IntKind.i64.wrap (x1326 + x1021))) < a1)) then (((cZ cE l1323 x1326 ((IntKind.i64.wrap (x1326 + x1021))) a1 f2)).bind fun r1366 => some r1366) else some l1323) : Option (List aB)).bind fun l1351 => (dF a1 f2 n1241 l1351 ((IntKind.i64.wrap (x1021 * 2)))))) else some l1018)
noncomputable def dE (a1 : Int) (f2 : ((aB × aB)) → Option Int) : Nat → (List aB) → Int → Int → Option (List aB)
  | 0, _, _, _ => none
  | n123 + 1, l88, x91, x92 => (if (decide (x92 ≤ a1)) then (((eM l88 x91 x92 f2)).bind fun r133 => (dE a1 f2 n123 r133 x92 ((IntKind.i64.wrap (x92 + 20))))) else (((eM l88 x91 a1 f2)).bind fun r145 => ((dF a1 f2 cE r145 20 : Option (List aB)).bind fun l801 => some l801)))
noncomputable def jC (a0 : List aB) (a1 : Int) (f2 : ((aB × aB)) → Option Int) : Option (List aB) :=
  dE a1 f2 cE a0 0 20
noncomputable def gJ (a0 : List aB) (f1 : ((aB × aB)) → Option Int) : Option (List aB) :=
  (((jC a0 ((a0.length : Int)) f1)).bind fun r1 => some r1)
noncomputable def iM (rec : (List Int) → aB → Option (List Int)) : List aB → (List Int) → Option (List Int)
  | [], l195 => some l195
  | x164 :: xs165, l195 => (((rec l195 x164)).bind fun r244 => (iM rec xs165 r244))
noncomputable def oG (rec : (List Int) → aB → Option (List Int)) (a0_b : List Int) (a1 : aB) : Option (List Int) :=
  (((gD a0_b a1.Op)).bind fun r5 => (if (a1.Op == 1) then (((jQ r5.2 a1.Role)).bind fun r19 => some r19.2) else (((if (a1.Op == 4) then (((gD r5.2 a1.K)).bind fun r261 => some r261.2) else some r5.2) : Option (List Int)).bind fun l48 => (((gD l48 ((a1.Kids.length : Int)))).bind fun r56 => iM rec a1.Kids r56.2))))
noncomputable def kN : Nat → (List Int) → aB → Option (List Int)
  | 0 => fun _ _ => none
  | n + 1 => oG (kN n)
noncomputable def pS (a0_b : List Int) (a1 : aB) : Option ((Bool × (List Int))) :=
  (((gP a1)).bind fun r5 => (if (!r5) then some (false, a0_b) else (((kN cE a0_b a1)).bind fun r9 => some (true, r9))))
noncomputable def mH (a0 : aB) : Option (List Int) :=
  (((pS ([]) a0)).bind fun r7 => (((mZ r7.2)).bind fun r20 => some r20))
noncomputable def mI (a0 : aB) (a1 : aB) : Option Int :=
  (((mH a0)).bind fun r51 => (((mH a1)).bind fun r60 => (((pW r51 r60)).bind fun r69 => some r69)))
noncomputable def oR (a0 : List aB) : Option (List aB) :=
  (((nG a0)).bind fun r1 => (((gJ r1 (fun (x : (aB × aB)) => mI x.1 x.2))).bind fun r14 => some r14))
noncomputable def eD (x4741 : Int) (f1 : ((aB × aB)) → Option Bool) : Nat → (List aB) → Int → Int → Option (((List aB) × Int))
  | 0, _, _, _ => none
  | n6934 + 1, l6742, x6745, x6746 => (if (decide (x6746 < (((l6742.length - (Int.toNat x4741) : Nat) : Int)))) then (((((dK (l6742.drop (Int.toNat x4741)) x6746)).bind fun x7076 => (((dK (l6742.drop (Int.toNat x4741)) ((IntKind.i64.wrap (x6746 - 1))))).bind fun x7084 => (((f1 ((x7076, x7084)))).bind fun r7089 => (if (!r7089) then (((dK (l6742.drop (Int.toNat x4741)) x6746)).bind fun x7096 => (((dK l6742 x6745)).bind fun x7104 => some (((l6742.set (Int.toNat x6745) x7096)), ((IntKind.i64.wrap (x6745 + 1)))))) else some (l6742, x6745))))) : Option (((List aB) × Int))).bind fun (l7021, x7024) => (eD x4741 f1 n6934 l7021 x7024 ((IntKind.i64.wrap (x6746 + 1))))) else some (l6742, x6745))
noncomputable def eC (a0 : List aB) (f1 : ((aB × aB)) → Option Bool) : Nat → Int → Option (List aB)
  | 0, _ => none
  | n5929 + 1, x4741 => (if (decide (x4741 < ((a0.length : Int)))) then (((dK a0 x4741)).bind fun x5975 => (((dK a0 ((IntKind.i64.wrap (x4741 - 1))))).bind fun x5983 => (((f1 ((x5975, x5983)))).bind fun r5988 => (if r5988 then (((nQ (decide (0 ≤ x4741) && decide (x4741 ≤ (a0.length : Int))))).bind fun _ => ((eD x4741 f1 cE a0 x4741 1 : Option (((List aB) × Int))).bind fun (l6543, x6546) => (((nQ (decide (0 ≤ x6546) && decide (x6546 ≤ (l6543.length : Int))))).bind fun _ => (((nQ (decide (0 ≤ x6546) && decide (x6546 ≤ (((iT l6543 (Int.toNat x6546) (⟨0, 0, (⟨zS, zS⟩ : Role), []⟩ : aB))).length : Int))))).bind fun _ => some (((iT l6543 (Int.toNat x6546) (⟨0, 0, (⟨zS, zS⟩ : Role), []⟩ : aB))).take (Int.toNat x6546)))))) else (eC a0 f1 n5929 ((IntKind.i64.wrap (x4741 + 1)))))))) else some a0)
noncomputable def iC (a0 : List aB) (f1 : ((aB × aB)) → Option Bool) : Option (List aB) :=
  (if (decide (((a0.length : Int)) < 2)) then some a0 else eC a0 f1 cE 1)
noncomputable def bP (a1 : List aB) (f2 : ((aB × aB)) → Option Bool) : List aB → Nat → Option Bool
  | [], _ => some true
  | x96 :: xs97, i95 => (((dK a1 ((i95 : Int)))).bind fun x175 => (((f2 ((x96, x175)))).bind fun r184 => (if (!r184) then some false else (bP a1 f2 xs97 (i95 + 1)))))
noncomputable def dP (a0 : List aB) (a1 : List aB) (f2 : ((aB × aB)) → Option Bool) : Option Bool :=
  (if (((a0.length : Int)) != ((a1.length : Int))) then some false else bP a1 f2 a0 0)
noncomputable def pK (rec : aB → aB → Option Bool) (a0 : aB) (a1 : aB) : Option Bool :=
  (((if (a0.Op == a1.Op) then some ((a0.K == a1.K)) else some false) : Option Bool).bind fun x10 => (((if x10 then some ((bA a0.Role a1.Role)) else some false) : Option Bool).bind fun x18 => (((if x18 then (((dP a0.Kids a1.Kids (fun (x : (aB × aB)) => rec x.1 x.2))).bind fun r38 => some r38) else some false) : Option Bool).bind fun x29 => some x29)))
noncomputable def iE : Nat → aB → aB → Option Bool
  | 0 => fun _ _ => none
  | n + 1 => pK (iE n)
noncomputable def fZ (a0 : bW) (a1 : Int) (a2 : List aB) : Option ((aB × bW)) :=
  (((tz a1 a2)).bind fun r6 => (((fN r6 (fun (x : aB) => jJ x ((IntKind.i64.wrap (5 - a1)))))).bind fun r18 => (if r18 then some ((⟨(IntKind.i64.wrap (5 - a1)), 0, (⟨zS, zS⟩ : Role), []⟩ : aB), a0) else (((oR r6)).bind fun r24 => (((iC r24 (fun (x : (aB × aB)) => iE cE x.1 x.2))).bind fun r37 => (((if (decide (((r37.length : Int)) > 64)) then some ((⟨12⟩ : bW)) else some a0) : Option bW).bind fun x51 => (if (((r37.length : Int)) == 1) then (((dK r37 0)).bind fun x61 => some (x61, x51)) else some ((⟨a1, 0, (⟨zS, zS⟩ : Role), r37⟩ : aB), x51))))))))
noncomputable def dQ (a0 : bW) : List aB → Int → (List aB) → Option ((aB × bW))
  | [], x143, l145 => (if (decide (x143 ≤ 0)) then (rT.bind fun r218 => some (r218, a0)) else (if (decide (x143 > ((l145.length : Int)))) then (sG.bind fun r235 => some (r235, a0)) else (if (x143 == ((l145.length : Int))) then (((fZ a0 2 l145)).bind fun r256 => some (r256.1, r256.2)) else (if (x143 == 1) then (((fZ a0 3 l145)).bind fun r277 => some (r277.1, r277.2)) else (((oR l145)).bind fun r297 => some ((⟨4, x143, (⟨zS, zS⟩ : Role), r297⟩ : aB), a0))))))
  | x111 :: xs112, x143, l145 => (((nA x111 2)).bind fun r201 => (if r201 then (dQ a0 xs112 ((IntKind.i64.wrap (x143 - 1))) l145) else (((nA x111 3)).bind fun r205 => (if (!r205) then (((fK 72 l145 ([x111]))).bind fun l211 => (dQ a0 xs112 x143 l211)) else (dQ a0 xs112 x143 l145)))))
noncomputable def jF (a0 : bW) (a1 : Int) (a2 : List aB) : Option ((aB × bW)) :=
  dQ a0 a2 a1 ([])
noncomputable def eT (rec : bW → aB → Option ((aB × bW))) (a1 : aB) : List aB → (List aB) → bW → Option ((aB × bW))
  | [], l182, x185 => (if (a1.Op == 4) then (((jF x185 a1.K l182)).bind fun r277 => some (r277.1, r277.2)) else (((fZ x185 a1.Op l182)).bind fun r297 => some (r297.1, r297.2)))
  | x142 :: xs143, l182, x185 => (((rec x185 x142)).bind fun r250 => (((fK 72 l182 ([r250.1]))).bind fun l266 => (eT rec a1 xs143 l266 r250.2)))
noncomputable def kB (rec : bW → aB → Option ((aB × bW))) (a0 : bW) (a1 : aB) : Option ((aB × bW)) :=
  (if (a1.Op == 1) then some (a1, a0) else eT rec a1 a1.Kids ([]) a0)
noncomputable def fL : Nat → bW → aB → Option ((aB × bW))
  | 0 => fun _ _ => none
  | n + 1 => kB (fL n)
noncomputable def rM (a0 : aB) : Option ((aB × Int)) :=
  (((gP a0)).bind fun r7 => (if (!r7) then some ((⟨0, 0, (⟨zS, zS⟩ : Role), []⟩ : aB), 11) else (((fL cE ((⟨0⟩ : bW)) a0)).bind fun r15 => (((if (r15.2.e != 0) then some true else (((gP r15.1)).bind fun r51 => some ((!r51)))) : Option Bool).bind fun x36 => (if x36 then some ((⟨0, 0, (⟨zS, zS⟩ : Role), []⟩ : aB), 12) else some (r15.1, 0))))))
noncomputable def rG (a0 : aB) (a1 : aB) : Option ((aB × Int)) :=
  (((rM ((⟨2, 0, (⟨zS, zS⟩ : Role), [a0, a1]⟩ : aB)))).bind fun r17 => some (r17.1, r17.2))
noncomputable def lO  : List aB → Int → Int → Int → Role → (List aB) → Option ((Int × Int × Int × Role × (List aB)))
  | [], x204, x205, x206, x207, l209 => some (x204, x205, x206, x207, l209)
  | x171 :: xs172, x204, x205, x206, x207, l209 => (if (x204 != 0) then some (x204, x205, x206, x207, l209) else (((rG ((⟨x205, x206, x207, l209⟩ : aB)) x171)).bind fun r270 => (lO xs172 r270.2 ((r270.1).Op) ((r270.1).K) ((r270.1).Role) ((r270.1).Kids))))
noncomputable def qE (a0 : List aB) : Option ((aB × Int)) :=
  (((dK a0 0)).bind fun x6 => (((rM x6)).bind fun r10 => (((nQ (decide (0 ≤ 1) && decide (1 ≤ (a0.length : Int))))).bind fun _ => ((lO ((a0.drop (Int.toNat 1))) r10.2 ((r10.1).Op) ((r10.1).K) ((r10.1).Role) ((r10.1).Kids) : Option ((Int × Int × Int × Role × (List aB)))).bind fun (x146, x147, x148, x149, l151) => (if (x146 != 0) then some ((⟨0, 0, (⟨zS, zS⟩ : Role), []⟩ : aB), x146) else some ((⟨x147, x148, x149, l151⟩ : aB), 0))))))
noncomputable def mK  : List eO → (List aB) → Option ((aB × Int))
  | [], l168 => (((qE l168)).bind fun r231 => some (r231.1, r231.2))
  | x139 :: xs140, l168 => (((fK 72 l168 ([x139.Release]))).bind fun l221 => (mK xs140 l221))
noncomputable def oJ (a0 : cG) (a1 : Cred) : Option ((aB × Int)) :=
  (((sk a0 a1)).bind fun r11 => (if (!r11.2) then some ((⟨0, 0, (⟨zS, zS⟩ : Role), []⟩ : aB), 42) else (((pQ a0 a1)).bind fun r37 => mK r37 ([(r11.1).Release]))))
noncomputable def gO (rec : aB → (Role → Option Bool) → Option Bool) (f1 : Role → Option Bool) (a0 : aB) : List aB → Int → Option Bool
  | [], x91 => (if (a0.Op == 2) then some (x91 == ((a0.Kids.length : Int))) else (if (a0.Op == 3) then some (decide (x91 > 0)) else some (decide (x91 ≥ a0.K))))
  | x71 :: xs72, x91 => (((rec x71 f1)).bind fun r127 => (if r127 then (gO rec f1 a0 xs72 ((IntKind.i64.wrap (x91 + 1)))) else (gO rec f1 a0 xs72 x91)))
noncomputable def oH (rec : aB → (Role → Option Bool) → Option Bool) (a0 : aB) (f1 : Role → Option Bool) : Option Bool :=
  (if (a0.Op == 1) then (((f1 a0.Role)).bind fun r6 => some r6) else gO rec f1 a0 a0.Kids 0)
noncomputable def kI : Nat → aB → (Role → Option Bool) → Option Bool
  | 0 => fun _ _ => none
  | n + 1 => oH (kI n)
noncomputable def oQ (a0 : aB) (f1 : Role → Option Bool) : Option Bool :=
  (((gP a0)).bind fun r5 => (((if r5 then (((kI cE a0 f1)).bind fun r21 => some r21) else some false) : Option Bool).bind fun x12 => some x12))
noncomputable def iK (a0 : Role) (c0q_in_ : List (Role × (List (ByteArray × Bool)))) (c0q_creds : List Cred) (c0q_uses : List (Role × (List Cred))) (c0q_words : List (ByteArray × (List Cred))) (c0q_todo : List aT) (c0q_n : Int) (c1 : ByteArray) : Option Bool :=
  (((pE c0q_in_ c0q_creds c0q_uses c0q_words c0q_todo c0q_n a0 c1)).bind fun r3 => some r3)
noncomputable def jH (a0 : cG) (r7 : ((List (Role × (List (ByteArray × Bool)))) × (List Cred) × (List (Role × (List Cred))) × (List (ByteArray × (List Cred))) × (List aT) × Int × ByteArray)) : List bK → (List Cred) → Option (List Cred)
  | [], l321 => (((re l321)).bind fun r465 => some r465)
  | x251 :: xs252, l321 => (((oJ a0 x251.Signed.Cred)).bind fun r417 => (((if (r417.2 == 0) then (((oQ r417.1 (fun (x : Role) => iK x r7.1 r7.2.1 r7.2.2.1 r7.2.2.2.1 r7.2.2.2.2.1 r7.2.2.2.2.2.1 r7.2.2.2.2.2.2))).bind fun r462 => some r462) else some false) : Option Bool).bind fun x438 => (if x438 then (((fK 136 l321 ([x251.Signed.Cred]))).bind fun l452 => (jH a0 r7 xs252 l452)) else (jH a0 r7 xs252 l321))))
noncomputable def jS (a0 : cG) (a1 : List Cred) (a2 : ByteArray) : Option (List Cred) :=
  (((qJ a1 a2)).bind fun r7 => jH a0 r7 a0.Creds ([]))
noncomputable def lC (rec : (List aB) → Option Int) : List aB → Int → Option Int
  | [], x99 => some x99
  | x74 :: xs75, x99 => (((rec x74.Kids)).bind fun r142 => (lC rec xs75 ((IntKind.i64.wrap (x99 + ((IntKind.i64.wrap (((IntKind.i64.wrap (1 + ((IntKind.i64.wrap (Int.tdiv ((IntKind.i64.wrap (((x74.Role.Owner.size : Int)) + ((x74.Role.Word.size : Int))))) 16)))))) + r142))))))))
noncomputable def qd (rec : (List aB) → Option Int) (a0 : List aB) : Option Int :=
  lC rec a0 0
noncomputable def kZ : Nat → (List aB) → Option Int
  | 0 => fun _ => none
  | n + 1 => qd (kZ n)
noncomputable def jM  : List eO → Int → Option Int
  | [], x1086 => some x1086
  | x1042 :: xs1043, x1086 => (((kZ cE ([x1042.Release]))).bind fun r1164 => (((mO x1042.Closure)).bind fun r1167 => (jM xs1043 ((IntKind.i64.wrap (x1086 + ((IntKind.i64.wrap (((IntKind.i64.wrap (((IntKind.i64.wrap (((x1042.Role.Owner.size : Int)) + ((x1042.Role.Word.size : Int))))) + ((IntKind.i64.wrap (20 * r1164)))))) + r1167)))))))))
noncomputable def jZ (a0 : cG) : List bK → Int → Option Int
  | [], x607 => ((jM a0.Acks x607 : Option Int).bind fun x1034 => some x1034)
  | x457 :: xs458, x607 => (((((tH ([]) ([x457.Signed]))).bind fun r888 => some (r888, ([x457.Release]))) : Option ((Int × (List aB)))).bind fun (x864, l866) => (((kZ cE l866)).bind fun r879 => (jZ a0 xs458 ((IntKind.i64.wrap (x607 + ((IntKind.i64.wrap (x864 + ((IntKind.i64.wrap (20 * r879))))))))))))
noncomputable def tF (a0 : cG) : Option Int :=
  jZ a0 a0.Creds ((a0.Name.size : Int))
noncomputable def pF (a0 : Role) : Option Cred :=
  some (⟨1, a0, (⟨#[121, 111, 117]⟩ : ByteArray), (⟨zS, zS⟩ : Role), (⟨zS, zS⟩ : Role), zS⟩ : Cred)
noncomputable def gW (a0 : List eO) (f1 : eO → Option Bool) : Option Bool :=
  (((iX a0 f1)).bind fun r1 => some (decide (r1 ≥ 0)))
noncomputable def qa (a0 : eO) : Option Bool :=
  some (decide (((a0.Closure.length : Int)) > 32))
noncomputable def sn (a0 : cG) : Option Bool :=
  (((if (decide (((a0.Creds.length : Int)) > 256)) then some true else some ((decide (((a0.Acks.length : Int)) > 8)))) : Option Bool).bind fun x8 => (((if x8 then some true else (((gW a0.Acks (fun (x : eO) => qa x))).bind fun r27 => some r27)) : Option Bool).bind fun x18 => some x18))
noncomputable def gT (a1 : List Cred) : List Cred → Nat → Option Bool
  | [], _ => some true
  | x91 :: xs92, i90 => (((dK a1 ((i90 : Int)))).bind fun x175 => (if (!(fB x91 x175)) then some false else (gT a1 xs92 (i90 + 1))))
noncomputable def mT (a0 : List Cred) (a1 : List Cred) : Option Bool :=
  (if (((a0.length : Int)) != ((a1.length : Int))) then some false else gT a1 a0 0)
noncomputable def oS (a0 : List Cred) : Option Bool :=
  (((re a0)).bind fun r1 => (((mT r1 a0)).bind fun r10 => some r10))
noncomputable def jN  : List bK → (List Cred) → Option Bool
  | [], l208 => (((oS l208)).bind fun r307 => some r307)
  | x158 :: xs159, l208 => (((if (((x158.Signed.Tag.length : Int)) != 8) then some true else (((gP x158.Release)).bind fun r304 => some ((!r304)))) : Option Bool).bind fun x282 => (if x282 then some false else (((fK 136 l208 ([x158.Signed.Cred]))).bind fun l294 => (jN xs159 l294))))
noncomputable def tE (a0 : cG) : Option Bool :=
  jN a0.Creds ([])
noncomputable def kH (a0 : List eO) : List eO → Nat → Option Bool
  | [], _ => some true
  | x1374 :: xs1375, i1373 => (((iR x1374.Role)).bind fun r2598 => (((if (!r2598) then some true else (((gP x1374.Release)).bind fun r2742 => some ((!r2742)))) : Option Bool).bind fun x2605 => (((if x2605 then some true else (((oS x1374.Closure)).bind fun r2735 => some ((!r2735)))) : Option Bool).bind fun x2619 => (((if x2619 then some true else (((if (decide (((i1373 : Int)) > 0)) then (((dK a0 ((IntKind.i64.wrap (((i1373 : Int)) - 1))))).bind fun x2719 => (((iY x2719.Role x1374.Role)).bind fun r2728 => some ((decide (r2728 ≥ 0))))) else some false) : Option Bool).bind fun x2703 => some x2703)) : Option Bool).bind fun x2674 => (if x2674 then some false else (kH a0 xs1375 (i1373 + 1)))))))
noncomputable def uh (a0 : List eO) : Option Bool :=
  kH a0 a0 0
noncomputable def gZ (a0 : List bK) (f1 : bK → Option Bool) : Option Bool :=
  (((gL a0 f1)).bind fun r1 => some (decide (r1 ≥ 0)))
noncomputable def oB (a0 : bK) (c0_Name : ByteArray) (c0_Creds : List bK) (c0_Acks : List eO) : Option Bool :=
  (((oJ ((⟨c0_Name, c0_Creds, c0_Acks⟩ : cG)) a0.Signed.Cred)).bind fun r7 => some (r7.2 != 0))
noncomputable def qO (a0 : cG) : Option Bool :=
  (((gZ a0.Creds (fun (x : bK) => oB x a0.Name a0.Creds a0.Acks))).bind fun r7 => some (!r7))
noncomputable def iU (a0 : cG) : Option Int :=
  (((kS a0.Name)).bind fun r7 => (if (!r7) then some 30 else (((sn a0)).bind fun r11 => (if r11 then some 12 else (((tE a0)).bind fun r15 => (((if (!r15) then some true else (((uh a0.Acks)).bind fun r47 => some ((!r47)))) : Option Bool).bind fun x22 => (((if x22 then some true else (((qO a0)).bind fun r40 => some ((!r40)))) : Option Bool).bind fun x31 => (if x31 then some 11 else some 0))))))))
noncomputable def kK  : List eO → (List Role) → Option (List Role)
  | [], l138 => some l138
  | x109 :: xs110, l138 => (((fK 32 l138 ([x109.Role]))).bind fun l189 => (kK xs110 l189))
noncomputable def qN (a0 : cG) (a1 : Cred) : Option (List Role) :=
  (((pQ a0 a1)).bind fun r9 => kK r9 ([]))
noncomputable def pY (a0 : eO) (c0 : Role) (f_c1 : Role → Option Bool) : Option Bool :=
  (((if (bA a0.Role c0) then (((oQ a0.Release f_c1)).bind fun r20 => some ((!r20))) else some false) : Option Bool).bind fun x11 => some x11)
noncomputable def nO (a0 : cG) (a1 : Role) (a2 : List Cred) (a3 : ByteArray) : Option Bool :=
  (((qJ a2 a3)).bind fun r9 => (((gW a0.Acks (fun (x : eO) => pY x a1 (fun (x : Role) => iK x r9.1 r9.2.1 r9.2.2.1 r9.2.2.2.1 r9.2.2.2.2.1 r9.2.2.2.2.2.1 r9.2.2.2.2.2.2)))).bind fun r40 => some (!r40)))
noncomputable def pG (a1 : Option kT) : List bK → Option Int
  | [] => some 0
  | x79 :: xs80 => (((qW a1 x79.Signed)).bind fun r141 => (if (r141 != 0) then some r141 else (pG a1 xs80)))
noncomputable def rC (a0 : cG) (a1 : Option kT) : Option Int :=
  (((iU a0)).bind fun r7 => (if (r7 != 0) then some r7 else pG a1 a0.Creds))
noncomputable def pO  : Option Bool :=
  (((((xT 1 0 8)).bind fun l2293 => some (((⟨#[109, 101]⟩ : ByteArray)), ([(⟨(⟨(⟨1, (⟨(⟨#[120]⟩ : ByteArray), (⟨#[121]⟩ : ByteArray)⟩ : Role), (⟨#[109, 101]⟩ : ByteArray), (⟨zS, zS⟩ : Role), (⟨zS, zS⟩ : Role), zS⟩ : Cred), l2293⟩ : Signed), (⟨1, 0, (⟨(⟨#[98]⟩ : ByteArray), (⟨#[115]⟩ : ByteArray)⟩ : Role), []⟩ : aB)⟩ : bK)]), ([(⟨(⟨(⟨#[120]⟩ : ByteArray), (⟨#[121]⟩ : ByteArray)⟩ : Role), (⟨1, 0, (⟨(⟨#[97]⟩ : ByteArray), (⟨#[114]⟩ : ByteArray)⟩ : Role), []⟩ : aB), [(⟨1, (⟨(⟨#[120]⟩ : ByteArray), (⟨#[121]⟩ : ByteArray)⟩ : Role), (⟨#[109, 101]⟩ : ByteArray), (⟨zS, zS⟩ : Role), (⟨zS, zS⟩ : Role), zS⟩ : Cred)]⟩ : eO)]), zS, ([]), ([]))) : Option ((ByteArray × (List bK) × (List eO) × ByteArray × (List bK) × (List eO)))).bind fun (x1552, l1554, l1558, x1561, l1563, l1567) => (((oJ ((⟨x1552, l1554, l1558⟩ : cG)) ((⟨1, (⟨(⟨#[120]⟩ : ByteArray), (⟨#[121]⟩ : ByteArray)⟩ : Role), (⟨#[109, 101]⟩ : ByteArray), (⟨zS, zS⟩ : Role), (⟨zS, zS⟩ : Role), zS⟩ : Cred)))).bind fun r1593 => (((oJ ((⟨x1552, l1554, l1558⟩ : cG)) ((⟨0, (⟨zS, zS⟩ : Role), zS, (⟨zS, zS⟩ : Role), (⟨zS, zS⟩ : Role), zS⟩ : Cred)))).bind fun r1610 => (((pF ((⟨(⟨#[97]⟩ : ByteArray), (⟨#[114]⟩ : ByteArray)⟩ : Role)))).bind fun r1643 => (((pF ((⟨(⟨#[98]⟩ : ByteArray), (⟨#[115]⟩ : ByteArray)⟩ : Role)))).bind fun r1646 => (((if (r1593.2 == 0) then some ((((((r1593.1).Kids).length : Int)) == 2)) else some false) : Option Bool).bind fun x2079 => (((if x2079 then some ((r1610.2 == 42)) else some false) : Option Bool).bind fun x2088 => (((if x2088 then (((iU ((⟨x1552, l1554, l1558⟩ : cG)))).bind fun r2278 => some ((r2278 == 0))) else some false) : Option Bool).bind fun x2099 => (((if x2099 then (((iU ((⟨zS, [], []⟩ : cG)))).bind fun r2271 => some ((r2271 == 30))) else some false) : Option Bool).bind fun x2110 => (((if x2110 then (((qN ((⟨x1552, l1554, l1558⟩ : cG)) ((⟨1, (⟨(⟨#[120]⟩ : ByteArray), (⟨#[121]⟩ : ByteArray)⟩ : Role), (⟨#[109, 101]⟩ : ByteArray), (⟨zS, zS⟩ : Role), (⟨zS, zS⟩ : Role), zS⟩ : Cred)))).bind fun r2258 => some ((((r2258.length : Int)) == 1))) else some false) : Option Bool).bind fun x2128 => (((if x2128 then (((jS ((⟨x1552, l1554, l1558⟩ : cG)) ([r1643, r1646]) ((⟨#[121, 111, 117]⟩ : ByteArray)))).bind fun r2245 => some ((((r2245.length : Int)) == 1))) else some false) : Option Bool).bind fun x2147 => (((if x2147 then (((nQ (decide (0 ≤ 1) && decide (1 ≤ (([r1643, r1646]).length : Int))))).bind fun _ => (((jS ((⟨x1552, l1554, l1558⟩ : cG)) ((([r1643, r1646]).take (Int.toNat 1))) ((⟨#[121, 111, 117]⟩ : ByteArray)))).bind fun r2232 => some ((((r2232.length : Int)) == 0)))) else some false) : Option Bool).bind fun x2169 => (((if x2169 then (((nO ((⟨x1552, l1554, l1558⟩ : cG)) ((⟨(⟨#[120]⟩ : ByteArray), (⟨#[121]⟩ : ByteArray)⟩ : Role)) ([r1643, r1646]) ((⟨#[121, 111, 117]⟩ : ByteArray)))).bind fun r2222 => some r2222) else some false) : Option Bool).bind fun x2181 => (((if x2181 then (((nO ((⟨x1552, l1554, l1558⟩ : cG)) ((⟨(⟨#[120]⟩ : ByteArray), (⟨#[121]⟩ : ByteArray)⟩ : Role)) ([]) ((⟨#[121, 111, 117]⟩ : ByteArray)))).bind fun r2215 => some ((!r2215))) else some false) : Option Bool).bind fun x2191 => (((if x2191 then (((rC ((⟨x1552, l1554, l1558⟩ : cG)) none)).bind fun r2208 => some ((r2208 == 1))) else some false) : Option Bool).bind fun x2200 => some x2200)))))))))))))))
noncomputable def gE (a0 : cG) : List bK → Option ((Bool ⊕ Unit))
  | [] => some (Sum.inr ())
  | x785 :: xs786 => (((oJ a0 x785.Signed.Cred)).bind fun r917 => (((if (r917.2 != 0) then some true else (((gP r917.1)).bind fun r951 => some ((!r951)))) : Option Bool).bind fun x938 => (if x938 then some (Sum.inl false) else (gE a0 xs786))))
noncomputable def gH (a0 : cG) (a1 : List Cred) : List Role → Option ((((Bool ⊕ Unit)) ⊕ Unit))
  | [] => some (Sum.inr ())
  | x1310 :: xs1311 => (((nO a0 x1310 a1 ((⟨#[98, 111, 98]⟩ : ByteArray)))).bind fun r1356 => (if (!r1356) then some (Sum.inl (Sum.inl false)) else (gH a0 a1 xs1311)))
noncomputable def gF (a0 : cG) (a1 : List Cred) : List Cred → Option ((Bool ⊕ Unit))
  | [] => some (Sum.inr ())
  | x959 :: xs960 => (((qN a0 x959)).bind fun r1239 => ((gH a0 a1 r1239 : Option ((((Bool ⊕ Unit)) ⊕ Unit))).bind fun s => match s with | .inl q1360 => some q1360 | .inr _ => (gF a0 a1 xs960)))
noncomputable def fG (r88 : List Cred) (a0 : cG) (a1 : List Cred) (r79 : List Cred) : List Cred → Option Bool
  | [] => (((iU a0)).bind fun r195 => (if (r195 != 0) then some true else ((gF a0 a1 r79 : Option ((Bool ⊕ Unit))).bind fun s => match s with | .inl q1361 => some q1361 | .inr _ => ((gE a0 a0.Creds : Option ((Bool ⊕ Unit))).bind fun s => match s with | .inl q954 => some q954 | .inr _ => some true))))
  | x147 :: xs148 => (((th r88 x147)).bind fun r191 => (if (!r191) then some false else (fG r88 a0 a1 r79 xs148)))
noncomputable def nJ (a0 : cG) (a1 : List Cred) (a2 : List Cred) : Option Bool :=
  (pO.bind fun r7 => (if (!r7) then some false else (((tF a0)).bind fun r11 => (((if (decide (r11 > 4000)) then some true else (((mO a1)).bind fun r1366 => (((mO a2)).bind fun r1369 => some ((decide (((IntKind.i64.wrap (r1366 + r1369))) > 1000)))))) : Option Bool).bind fun x21 => (if x21 then some true else (((fK 136 ([]) a1)).bind fun l31 => (((fK 136 l31 a2)).bind fun l37 => (((jS a0 a1 ((⟨#[98, 111, 98]⟩ : ByteArray)))).bind fun r79 => (((jS a0 l37 ((⟨#[98, 111, 98]⟩ : ByteArray)))).bind fun r88 => fG r88 a0 a1 r79 r79)))))))))
end Go.Proofs.YtmlncblocfcmiaaGreat
