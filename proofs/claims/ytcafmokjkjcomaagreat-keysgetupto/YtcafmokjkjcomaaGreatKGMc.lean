/- a part of a proof of KeysGet -/
import Derived.Test.YtcafmokjkjcomaaGreatRtZcc
import Derived.Shelf.SlSortCmp.NoneTotal
import Derived.Shelf.SortM.Plain
import Derived.Shelf.SortM.SortNone
import Derived.Shelf.SlIter.Sorted
import Derived.Shelf.SlIter.Nil
import Derived.Test.YtcafmokjkjcomaaGreatProg
import Derived.KernelRfl
set_option linter.all false
namespace Go.Proofs.YtcafmokjkjcomaaGreat
open Go.IntKind renaming wrap → wi0
open Go.RowKit
def zO (n : Nat) (Q : List Deferred → gP) (e : Exit) (a : Act) (w : World) : Prop := ∃ D, xW D n (Q D) e a w
def xj (P : Program) (n : Nat) (c : Code) (Q : List Deferred → gP) (E : Nat → Value) (W : World) : Prop := ∀ a, Ag n a E → c.wp P (zO n Q) a W
def zY (P : Program) (n : Nat) (ops : Array Oper) (Q : List Deferred → gP) (l : List Oper) (E : Nat → Value) (W : World) : Prop := ∀ a, Ag n a E → wpList P ops (zO n Q) l a W
def BO (P : Program) (fn : Func) (R : Ending → World → Prop) (D : List Deferred) : gP
 | .normal, E, W | .ret, E, W => ∀ tmps : Array Value, (∀ t, tmps.getD t undef = E t) → Leaves P fn tmps R D .returning W
 | .panic c, E, W => ∀ tmps : Array Value, (∀ t, tmps.getD t undef = E t) → Leaves P fn tmps R D (.panicking c) W
 | _, _, _ => False
section
variable {P : Program} {n : Nat} {Q : List Deferred → gP} {E : Nat → Value} {W : World} {c x y : Code} {ops : Array Oper} {rest : List Oper} {o : Oper}
theorem xi (h : CW P n x (fun e E W => e = .normal ∧ xj P n y Q E W) E W) : xj P n (.seq x y) Q E W := fun a ha =>
 wp_seq (dy (h a ha) (fun e g j h => by
  cases e with
  | normal => obtain ⟨E', d, _, i⟩ := h; exact i g d
  | panic c => exact absurd h.2.1 (by simp)
  | outgrown => exact h.elim
  | _ => obtain ⟨E', d, h1, _⟩ := h; cases h1))
theorem Bv (h : xj P n x (fun D => iE (fun E W => rc D P n y (Q D) E W) (Q D)) E W) : xj P n (.seq x y) Q E W := fun a ha =>
 wp_seq (dy (h a ha) (fun e d i ⟨D, h⟩ => by
  cases e with
  | normal => obtain ⟨E', c, g⟩ := h; exact dy (g d c) (fun e a w h => ⟨D, h⟩)
  | _ => exact ⟨D, h⟩))
theorem xY {id : Nat} {l : List Oper} (h : zY P n l.toArray Q l E W) : xj P n (.region id l.toArray false) Q E W := fun a ha => wp_region_lit (h a ha)
theorem BV {dd : Nat} {v : Value} (hw : gT n ops E o) (d : o.dst = some dd) (g : dd < n) (c : fQ P E o W v W) (h : zY P n ops Q rest (gx E dd v) W) : zY P n ops Q (o :: rest) E W := fun a ha => by
 unfold wpList
 rw [aB (hw.of ha)]
 refine .inl ?_
 unfold Oper.wp
 unfold fQ at c
 rw [ha.eval, c, cg, d]
 exact h _ (ha.put g v)
theorem yr {d : Deferred} (hw : gT n ops E o) (c : o.dst = none) (g : (execOp (fc E) o).run P W = .ok (.defer d) W) (h : Q [d] .normal E W) : zY P n ops Q [o] E W := fun a ha => by
 unfold wpList
 rw [aB (hw.of ha)]
 refine .inl ?_
 unfold Oper.wp
 rw [ha.eval, g, Oper.upon_defer, c]
 exact wpList_nil ⟨[d], E, ⟨ha.1, by simp [Act.put, ha.2.1], ha.2.2⟩, h⟩
theorem wc {f : FuncId} {fn : Func} {c : Code} {args : List Value} {w : World} {R : Ending → World → Prop} (j : P.funcs[f]? = some fn) (i : fn.body = some c) (k : fn.ntmps = n) (ha : args.length ≤ n) (h : xj P n c (fun D => BO P fn R D) (mx args) w) : Calls P f args.toArray w R := by
 refine calls_of_wp_defers j i (dy (h _ (wv k ha)) (fun e a o ⟨D, g⟩ => ?_))
 cases e with
 | normal => obtain ⟨E, d, h⟩ := g; show Leaves _ _ _ _ a.defers _ _; rw [d.2.1]; exact h _ d.2.2
 | ret => obtain ⟨E, d, h⟩ := g; show Leaves _ _ _ _ a.defers _ _; rw [d.2.1]; exact h _ d.2.2
 | exit id => obtain ⟨E, d, h⟩ := g; exact h.elim
 | goto l => obtain ⟨E, d, h⟩ := g; exact h.elim
 | panic c => show Leaves _ _ _ _ a.defers _ _; rw [g.1]; exact g.2.2 _ (fun _ => rfl)
 | outgrown => exact g.elim
theorem yN {d : Option Nat} {ty : TypeId} {pos : String} {af : Array Edge} {g : Option (Nat × Bool)} {f : FuncId} {fv : Operand} {ax : Array Operand} {ats : Array TypeId} {caps : Array Value} {args : List Value} (c : fc E fv = .func (.func f) #[] caps) (ha : ax.map (fc E) ++ (#[] : Array Value) = args.toArray) : (execOp (fc E) ⟨d, .defer ⟨.value fv, ax, ats⟩, ty, pos, af, g⟩).run P W = .ok (.defer ⟨.fn (.func f) caps, args.toArray⟩) W := by
 show (do pure (.defer (← resolve (fc E) ⟨.value fv, ax, ats⟩ ty)) : Sem Next).run P W = _
 have a : ax.map (fc E) = args.toArray := by simpa using ha
 simp [resolve, Deferred.ofValue, c, a]
theorem vI {fn : Func} {R : Ending → World → Prop} {k : FuncId} {ax : Array Value} {u : FrameMode} {X : World → Prop} (hu : u ≠ .run) (he : ∀ args w, (callFunc k args).run P w = .ok (.enter k args) w) (c : CallsD P k ax u W fun e a W' => e = .returned (.tuple #[]) ∧ settle a = .returning ∧ X W') (h : ∀ W', X W' → mu P fn R .ret E W') (tmps : Array Value) (i : ∀ t, tmps.getD t undef = E t) : Leaves P fn tmps R [⟨.fn (.func k) #[], ax⟩] u W :=
 leaves_cons hu (by simp [invoke, he]) (CallsD.mono c (by
  rintro e a W' ⟨rfl, g, n⟩
  obtain ⟨v, j, d⟩ := h W' n
  show Leaves _ _ _ _ [] (settle a) _
  rw [g]
  exact ⟨v, j _ i, d⟩))
end
theorem jV.form {κ γ : Type} {kenc : κ → Value} {Q : Value → γ → List (Nat × Obj) → Prop} {μ : fz} {v : Value} {l : List (κ × γ)} (h : jV kenc Q μ v l) : ∃ m, v = .map m := by
 obtain ⟨a, R, h, _⟩ := h
 obtain ⟨m, rfl⟩ := h.form
 exact ⟨_, rfl⟩
theorem jV.Cq {κ γ : Type} {kenc : κ → Value} {Q : Value → γ → List (Nat × Obj) → Prop} {μ : fz} {v : Value} {l : List (κ × γ)} (h : jV kenc Q μ v l) : ∃ a : List (κ × (Value × γ)), a.map (fun p => (p.1, p.2.2)) = l ∧ my kenc (fun x => x.1) μ v a := by
 obtain ⟨q, R, ⟨k, n, rfl, ⟨m, es, clock, rfl, rfl, c⟩, j⟩, i⟩ := h
 obtain ⟨a, d, g, o⟩ := j.zip
 refine ⟨a, g, .inr ⟨m, es, clock, rfl, i _ _ (by simp), ⟨?_, c.born, c.lt⟩⟩⟩
 rw [c.pQ, ← d]; simp
theorem yB {β γ : Type} {a : List (ByteArray × β)} {l : List (ByteArray × γ)} {f : β → γ} (h : a.map (fun p => (p.1, f p.2)) = l) : oF a = oF l := by
 subst h
 unfold oF
 have e : (a.map (fun p => (p.1, f p.2))).map (·.1) = a.map (·.1) := by rw [bV]; rfl
 simp only [e, cX]
 have : (∀ p ∈ a.map (fun p => (p.1, f p.2)), p.1.size ≤ maxLen) ↔ (∀ p ∈ a, p.1.size ≤ maxLen) := ⟨fun h p hp => h _ (aS.2 ⟨p, hp, rfl⟩), fun h q c => by obtain ⟨p, hp, rfl⟩ := aS.1 c; exact h p hp⟩
 simp only [this]
def Ae (dd : Bool) (w : World) (μ0 : fz) (L0 : List (Nat × Obj)) (K : Value → List (Nat × Obj) → fz → Prop) : Ending → World → Prop := fun e a => ∃ v L1 μ1, e = .returned v ∧ jg dd L0 L1 w a ∧ fA μ0 μ1 ∧ Lo (keys L0) w μ0 μ1 ∧ fA μ1 (jy a L1) ∧ K v L1 μ1
theorem yj {dd : Bool} {P : Program} {f : FuncId} {args : List Value} {w : World} {μ0 : fz} {L0 : List (Nat × Obj)} {K : Value → List (Nat × Obj) → fz → Prop} (h : Calls P f args.toArray w (Ae dd w μ0 L0 K)) : gV dd P f args w μ0 L0 K := h
theorem gV.mono {dd : Bool} {P : Program} {f : FuncId} {args : List Value} {w : World} {μ0 : fz} {L0 : List (Nat × Obj)} {K K' : Value → List (Nat × Obj) → fz → Prop} (h : gV dd P f args w μ0 L0 K) (hk : ∀ v L1 μ1, fA μ0 μ1 → K v L1 μ1 → K' v L1 μ1) : gV dd P f args w μ0 L0 K' :=
 bp h fun _ _ ⟨v, L1, μ1, h1, c, a, d, g, i⟩ => ⟨v, L1, μ1, h1, c, a, d, g, hk _ _ _ a i⟩
theorem fI.mono {R : Type} {dd : Bool} {P : Program} {f : FuncId} {args : List Value} {w : World} {μ0 : fz} {L0 : List (Nat × Obj)} {s : Int ⊕ R} {K K' : R → Value → List (Nat × Obj) → fz → Prop} {X X' : Int → List PanicEntry → List (Nat × Obj) → fz → Prop} (h : fI dd P f args w μ0 L0 s K X) (hk : ∀ r v L1 μ1, K r v L1 μ1 → K' r v L1 μ1) (k : ∀ x c L1 μ1, X x c L1 μ1 → X' x c L1 μ1) : fI dd P f args w μ0 L0 s K' X' :=
 bp h fun e n h => by
  cases s with
  | inl x => obtain ⟨v, L1, μ1, h1, a, d, g, i, j⟩ := h; exact ⟨v, L1, μ1, h1, a, d, g, i, k _ _ _ _ j⟩
  | inr r => obtain ⟨v, L1, μ1, h1, a, d, g, i, j⟩ := h; exact ⟨v, L1, μ1, h1, a, d, g, i, hk _ _ _ _ j⟩
def zP {S : Type} (K : S → List (Nat × Obj) → fz → Prop) (X : Int → List (Nat × Obj) → fz → Prop) : Int ⊕ S → List (Nat × Obj) → fz → Prop
 | .inl x => X x
 | .inr r => K r
end Go.Proofs.YtcafmokjkjcomaaGreat
namespace Go.Proofs.YtcafmokjkjcomaaGreat
open Go.IntKind renaming wrap → wi0
open Go.Sort Go.Proofs Go.Shelf
theorem sQ {g b : Nat} {o : Obj} : keys [(g, o)] b ↔ b = g := by
 constructor
 ·rintro ⟨a, h⟩
  simp at h
  exact h.1
 ·rintro rfl; exact ⟨o, by simp⟩
theorem pW (w : World) (g m : Nat) (f : Array Value → Array Value) (os : Array Obj) (b : Nat) (c : b < w.heap.size) :
  (Go.Sort.grow (mapBlock (Go.Sort.ahead w m) g f) os).heap[b]? = if g = b then w.heap[b]?.map (onCells f) else w.heap[b]? := by
 have a : b < (mapBlock (Go.Sort.ahead w m) g f).heap.size := by simp only [mapBlock, Go.Sort.ahead, Array.size_modify]; exact c
 rw [heap_grow_old _ _ a]
 simp only [mapBlock, Go.Sort.ahead, cq]
theorem wC {w : World} {g m : Nat} {f : Array Value → Array Value} {os : Array Obj} {cs : Array Value} {T : TypeId} {fr : Nat × Nat} (c : w.heap[g]? = some (.cells cs T fr)) :
  jg true [(g, .cells cs T fr)] [(g, .cells (f cs) T fr)] w (Go.Sort.grow (mapBlock (Go.Sort.ahead w m) g f) os) := by
 have a : g < w.heap.size := (bL.1 c).1
 refine ⟨⟨rfl, rfl, rfl, ?_, ?_, fun b d i => ?_⟩, fun b o h => ?_, by simp⟩
 ·refine kP.of ?_
  show w.drawn ≤ w.drawn + m
  omega
 ·show w.heap.size ≤ (w.heap.modify g (onCells f) ++ os).size
  simp
 ·rw [pW _ _ _ _ _ _ d, aA fun h => i (sQ.2 h.symm)]
 ·simp only [aF, bi, cC, Prod.mk.injEq] at h
  obtain ⟨rfl, rfl⟩ := h
  refine ⟨?_, .inr (sQ.2 rfl)⟩
  rw [pW _ _ _ _ _ _ a, aB rfl, c]
  rfl
theorem xx {w W : World} (h : Ex true w W) : ∃ q os, W = Go.Sort.grow (w.drewN q) os := by
 refine ⟨W.drawn - w.drawn, W.heap.extract w.heap.size W.heap.size, ?_⟩
 have g : W.heap = w.heap ++ W.heap.extract w.heap.size W.heap.size := by
  apply Array.ext_getElem?
  intro i
  rw [da]
  split
  ·rename_i hi; exact h.jZ i hi
  ·rename_i hi
   rw [Array.getElem?_extract]
   have k := h.size
   split
   ·rw [show w.heap.size + (i - w.heap.size) = i by omega]
   ·exact Array.getElem?_eq_none (by omega)
 obtain ⟨h1, n, o, p, s⟩ := W
 have a := h.os; have c := h.tape; have d := h.output; have j := h.drawn rfl
 simp only at a c d j g
 unfold Go.Sort.grow World.drewN
 simp only [World.mk.injEq]
 exact ⟨g, c, by omega, a, d⟩
theorem xd {α : Type} [Inhabited α] {enc : α → List Value} {k : Nat} (hk : ∀ x, (enc x).length = k) (l : List α) (j : Nat) (a : j < l.length * k) :
  (l.map enc).flatten[j]? = some ((flatK enc k l.toArray)[j]!) := by
 have g : 0 < k := by
  cases k with
  | zero => simp at a
  | succ n => omega
 have h1 : j / k < l.length := (dG g).2 a
 rw [get_flatK _ _ _ _ (by simpa using a)]
 have h : l.toArray[j / k]! = l[j / k] := by
  rw [getElem!_pos l.toArray (j / k) (by simpa using h1)]; simp
 rw [h]
 have c : j % k < (enc l[j / k]).length := by rw [hk]; exact Nat.mod_lt _ g
 have d := nC hk l (j / k) l[j / k] (bD h1) (j % k) ((enc l[j / k])[j % k]) (bD c)
 rw [Nat.div_add_mod' j k] at d
 rw [d, getElem!_pos (enc l[j / k]) (j % k) c]
theorem uP {α : Type} [Inhabited α] {enc : α → List Value} {k : Nat} (hk : ∀ x, (enc x).length = k) {w : World} {g : Nat} {cs : Array Value} {T : TypeId} (c : w.heap[g]? = some (.cells cs T (0, 0))) (l : List α)
  (h : cs.toList.take (l.length * k) = (l.map enc).flatten) : HoldsK enc k w g 0 l.toArray := by
 intro j d
 have a : j < l.length * k := by simpa using d
 have h1 := xd hk l j a
 rw [← h, cA, aB a] at h1
 refine ⟨?_, ?_⟩
 ·simp only [World.cell?, c, eF]
  simpa using h1
 ·simp [World.frozen?, c]
theorem wO {α : Type} [Inhabited α] {enc : α → List Value} {k : Nat} (hk : ∀ x, (enc x).length = k) {cs : Array Value} (l : List α) (c : l.length * k ≤ cs.size) :
  (putCells id 0 (flatK enc k l.toArray) cs).toList.take (l.length * k) = (l.map enc).flatten := by
 apply cI
 intro j
 rw [cA]
 split
 ·rename_i a
  rw [xd hk l j a]
  simp only [putCells, bH, Array.getElem?_mapIdx, size_flatK, bQ]
  rw [Array.getElem?_eq_getElem (by omega)]
  simp [a]
 ·rename_i a
  rw [cr (by rw [ly hk]; omega)]
theorem uU (enc : Value → Value) (o : Nat) (d c : Array Value) : (putCells enc o d c).size = c.size := by simp [putCells]
section
variable {α : Type} {P : Program} {ρ : Ren}
theorem Bf {l : List α} {cf : α × α → Option Int} (h : rJ cf l) : SWO (ltOf fun (x y : {x // x ∈ l}) => (cf (x.1, y.1)).getD 0) ∧
  (∀ x y : {x // x ∈ l}, ltOf (fun (x y : {x // x ∈ l}) => (cf (x.1, y.1)).getD 0) x y = lb cf x.1 y.1) := by
 have e : ∀ x y : {x // x ∈ l}, ltOf (fun (x y : {x // x ∈ l}) => (cf (x.1, y.1)).getD 0) x y = lb cf x.1 y.1 := fun x y => by
  obtain ⟨c, i⟩ := h.is x.1 x.2 y.1 y.2
  simp [ltOf, lb, i]
 refine ⟨⟨fun x => ?_, fun x y z => ?_, fun x y z => ?_⟩, e⟩
 ·rw [e]; exact h.irrefl _ x.2
 ·rw [e, e, e]; exact h.trans _ x.2 _ y.2 _ z.2
 ·rw [e, e, e]
  intro h1 d
  cases a : lb cf x.1 z.1 with
  | false => rfl
  | true =>
   cases g : lb cf y.1 x.1 with
   | true =>
    have := h.trans _ y.2 _ x.2 _ z.2 g a
    rw [d] at this; cases this
   | false =>
    have := h.total _ x.2 _ y.2 h1 g
    rw [this, d] at a; cases a
theorem wP (L : SlLaysF0.n6 P ρ) (k : Nat) (aE : ∀ w, (isAgg (ρ.t 24)).run P w = .ok true w) (zE : ∀ w, (Go.sizeOf (ρ.t 24)).run P w = .ok k w) {e : TypeId} (enc : α → List Value) (hk : ∀ x, (enc x).length = k) (h1 : ∀ x, ∀ u ∈ enc x, u.oneCell' = true) {v fv : Value} {l r : List α} {R : List (Nat × Obj)} {cf : α × α → Option Int} {w : World} {μ0 : fz} (hH : qC (R ++ []) w) (A : fA μ0 (jy w (R ++ []))) (U : fN e enc k v l R) (hc : vt P fv μ0 (fun (x : α × α) => [(.agg (enc x.1).toArray), (.agg (enc x.2).toArray)]) (fun (r : Int) => (.int .i64 r)) cf) (hm : pH cf l = some r) :
  gq true P (ρ.f 6) [v, fv] w (R ++ []) (fun u L1 _ => ∃ (S : List (Nat × Obj)), u = (.tuple #[]) ∧ L1 = (S ++ []) ∧ fN e enc k v r S) := by
 obtain ⟨ok, rfl⟩ := xM hm
 rw [cm] at hH A ⊢
 rcases cz l.length with h0 | i
 ·have hl : l = [] := cw h0
  subst hl
  have W : la cf ([] : List α) = [] := by simp [la]
  rw [W]
  obtain ⟨p, c, rfl⟩ : ∃ p c, v = .slice p 0 c := by
   rcases U with ⟨rfl, _, _⟩ | ⟨g, cap, j, rfl, _⟩
   ·exact ⟨_, _, rfl⟩
   ·exact ⟨_, _, rfl⟩
  refine bp (AnyF.slices_SortFunc_none L p c fv w) fun x w' ⟨hx, hw⟩ => ?_
  subst hx hw
  refine ⟨_, R, rfl, ⟨⟨rfl, rfl, rfl, kP.of (aQ _), aQ _, fun _ _ _ => rfl⟩, fun b o h => ⟨hH b o h, .inr ⟨o, h⟩⟩, ?_⟩, R, rfl, (cm R).symm, U⟩
  rcases U with ⟨_, _, rfl⟩ | ⟨g, cap, j, _, rfl, _⟩ <;> simp
 ·rcases U with ⟨_, rfl, _⟩ | ⟨g, cap, j, rfl, rfl, a6, a1, J, ab⟩
  ·simp at i
  have hg : w.heap[g]? = some (.cells j e (0, 0)) := hH g _ (by simp)
  have a7 : g < w.heap.size := (bL.1 hg).1
  haveI : Inhabited {x // x ∈ l} := ⟨⟨l[0], List.getElem_mem i⟩⟩
  obtain ⟨gg, caps, rfl, K, q⟩ := hc
  obtain ⟨hO, M⟩ := Bf ok
  have D : l.attach.toArray.size = l.length := by simp
  have a8 : l.attach.map (fun x => enc x.1) = l.map enc := by
   rw [show (fun x : {x // x ∈ l} => enc x.1) = enc ∘ Subtype.val from rfl, ← bV, List.attach_map_subtype_val]
  have Y : HoldsK (fun x : {x // x ∈ l} => enc x.1) k w g 0 l.attach.toArray := uP (fun x => hk x.1) hg l.attach (by rw [a8, List.length_attach, ab])
  have I : CmpLays P gg caps (fun x : {x // x ∈ l} => enc x.1) k (fun x y => (cf (x.1, y.1)).getD 0) g 0 l.attach.toArray.size w := by
   intro m os dk ae x y
   obtain ⟨c, G⟩ := ok.is x.1 x.2 y.1 y.2
   have T : fA μ0 (hp (sortWorldK (fun x : {x // x ∈ l} => enc x.1) k w g 0 m dk os)) := fun b o hb => by
    have z := A b o hb
    unfold jy at z
    split at z
    ·cases z
    ·rename_i hn
     have Z : b < w.heap.size := (bL.1 z).1
     show (Go.Sort.grow (mapBlock (Go.Sort.ahead w m) g _) os).heap[b]? = _
     rw [pW _ _ _ _ _ _ Z, aA fun h => hn (sQ.2 h.symm)]
     exact z
   have h3 := q (sortWorldK (fun x : {x // x ∈ l} => enc x.1) k w g 0 m dk os) (x.1, y.1) c T G
   have ea : ([Value.agg (enc x.1).toArray, Value.agg (enc y.1).toArray] ++ caps.toList).toArray = #[Value.agg (enc x.1).toArray, Value.agg (enc y.1).toArray] ++ caps := by
    apply Array.ext'; simp
   rw [← ea]
   exact bp h3 fun u W' hu => ⟨by rw [hu.1]; show _ = Ending.returned (.int .i64 ((cf (x.1, y.1)).getD 0)); rw [G]; rfl, xx hu.2⟩
  have hT : ∀ x y : {x // x ∈ l}, ltOf (fun (x y : {x // x ∈ l}) => (cf (x.1, y.1)).getD 0) x y = false → ltOf (fun (x y : {x // x ∈ l}) => (cf (x.1, y.1)).getD 0) y x = false → x = y := fun x y a b => by
   rw [M] at a b
   exact Subtype.ext (ok.total _ x.2 _ y.2 a b)
  have d := AnyQ.slices_SortFunc_total L k aE zE (fun x : {x // x ∈ l} => enc x.1) (fun x => hk x.1) (fun x => h1 x.1) (fun x y => (cf (x.1, y.1)).getD 0) hO gg caps g 0 cap l.attach.toArray w K I Y a7 (by rw [D]; exact ok.short) hT
  rw [D] at d
  refine bp d fun u w' ⟨hu, n, os, hw⟩ => ?_
  subst hu
  generalize W : l.attach.toArray.toList.mergeSort (fun x y => !ltOf (fun (x y : {x // x ∈ l}) => (cf (x.1, y.1)).getD 0) y x) = s at hw
  have aa : s.map Subtype.val = la cf l := by
   rw [← W, ee (s := fun x y => !lb cf y x) (fun a _ b _ => by rw [M])]
   simp [la]
  have Q : s.length = l.length := by rw [← W, dI]; simp
  have O : (la cf l).length = l.length := by simp [la, dI]
  have F := wC (w := w) (m := n) (f := putCells id 0 (flatK (fun x : {x // x ∈ l} => enc x.1) k s.toArray)) (os := os) hg
  have ad : w' = Go.Sort.grow (mapBlock (Go.Sort.ahead w n) g (putCells id 0 (flatK (fun x : {x // x ∈ l} => enc x.1) k s.toArray))) os := hw
  rw [← ad] at F
  refine ⟨_, _, rfl, F, _, rfl, (cm _).symm, .inr ⟨g, cap, _, by rw [O], rfl, by omega, a1, by rw [uU, J], ?_⟩⟩
  rw [O, ← Q, wO (fun x => hk x.1) s (by rw [Q, J]; exact bt k a6), ← aa, bV]
  rfl
end
theorem rk (b : ByteArray) : b.toList = b.data.toList := by rw [cO]
theorem AS (l : List ByteArray) : (l.map pN).flatten = l.map Value.string := by
 induction l with
 | nil => rfl
 | cons x l ih => simp only [aT, bJ, ih]; rfl
theorem ze (l : List ByteArray) : (lG l).map (fun b => b.data.toList) = (l.map (fun b => b.data.toList)).mergeSort (fun x y => decide (x ≤ y)) := by
 unfold lG
 refine ee fun a _ b _ => ?_
 unfold oV
 rw [bytesLess_eq, rk, rk]
 by_cases h : a.data.toList ≤ b.data.toList
 ·have c : ¬ b.data.toList < a.data.toList := List.not_lt.2 h
  simp [h, c]
 ·have c : b.data.toList < a.data.toList := by
   cases Decidable.em (b.data.toList < a.data.toList) with
   | inl d => exact d
   | inr d => exact absurd (List.not_lt.1 d) h
  simp [h, c]
end Go.Proofs.YtcafmokjkjcomaaGreat
namespace Go.Proofs.YtcafmokjkjcomaaGreat
open Go.IntKind renaming wrap → wi0
open Go.WideElems Go.WideShapes Go.Sort Go.Proofs Go.Shelf
theorem wI {β : Type} {vf : β → Value} {P : Program} {kt : TypeId} (A : P.underlying kt = some .string) {l : List (ByteArray × β)} {es : Array MapEntry} {clock : Nat} (h : lX Value.string vf l es clock) (y : (l.map (·.1)).Nodup) (z : ∀ p ∈ l, p.1.size ≤ maxLen) (w : l.length ≤ maxLen) {W : World} {b : Nat} (u : W.heap[b]? = some (.map es clock)) : ∃ D : DataW Unit, W.ownsMap P kt (fun _ => some (.lit (.bool true), [])) b es.size D ∧ (strKeys D).Perm (l.map (fun p => p.1.data.toList)) ∧ Maps.size D = l.length := by
 have c := h.keys
 have n : ∀ x ∈ es.toList, ∃ s : ByteArray, x.key = .string s ∧ s.size ≤ maxLen := fun x i => by
  have h1 : x.key ∈ es.toList.map (·.key) := aS.2 ⟨x, i, rfl⟩
  rw [c] at h1
  obtain ⟨s, g, j⟩ := aS.1 h1
  obtain ⟨p, q, t⟩ := aS.1 g
  exact ⟨s, j.symm, by rw [← t]; exact z p q⟩
 have d : ∀ x ∈ es.toList, ∃ s : ByteArray, x.key = .string s ∧ Go.WideElems.rd (H := Unit) P kt (fun _ => some (.lit (.bool true), [])) x = some (.string s.data.toList, .lit (.bool true)) := fun x i => by
  obtain ⟨s, h1, g⟩ := n x i
  refine ⟨s, h1, ?_⟩
  simp [Go.WideElems.rd, keyOf, A, mapKey, h1, g]
 refine ⟨_, ⟨es, clock, u, ⟨by rw [h.length]; exact w, ⟨h.lt, ?_, ?_⟩, fun x i => ?_⟩, aQ _, rfl⟩, ?_, ?_⟩
 ·have := h.born
  rw [List.Nodup, dE]
  exact this.imp (fun {a b} h => by omega)
 ·rw [c]
  rw [List.Nodup, dE]
  exact y.imp (fun {a b} k e => k (by injection e))
 ·obtain ⟨s, _, g⟩ := d x i
  exact ⟨_, g⟩
 ·have h1 := (sorted_perm (es.toList.map (Go.WideElems.rg (H := Unit) P kt (fun _ => some (.lit (.bool true), []))))).map (fun p => strOf p.1)
  refine List.Perm.trans h1 ?_
  have e : (es.toList.map (Go.WideElems.rg (H := Unit) P kt (fun _ => some (.lit (.bool true), [])))).map (fun p => strOf p.1) = l.map (fun p => p.1.data.toList) := by
   have o : (es.toList.map (Go.WideElems.rg (H := Unit) P kt (fun _ => some (.lit (.bool true), [])))).map (fun p => strOf p.1) = (es.toList.map (·.key)).map (fun v => match v with | .string s => s.data.toList | _ => []) := by
    rw [bV, bV]
    refine dV fun x i => ?_
    obtain ⟨s, g, j⟩ := d x i
    simp [Go.WideElems.rg, j, g, strOf]
   rw [o, c, bV, bV]
   rfl
  rw [e]
 ·have h1 := (sorted_perm (es.toList.map (Go.WideElems.rg (H := Unit) P kt (fun _ => some (.lit (.bool true), []))))).length_eq
  show (List.foldr DataW.insert [] _).length = _
  rw [h1, cX, ← h.length]
  simp
theorem uJ {l : List ByteArray} {g : List (List UInt8)} (h : g.Perm (l.map fun b => b.data.toList)) : g.mergeSort (fun x y => decide (x ≤ y)) = (lG l).map (fun b => b.data.toList) := by
 rw [ze]
 have le : ∀ a b c : List UInt8, decide (a ≤ b) = true → decide (b ≤ c) = true → decide (a ≤ c) = true := fun a b c h1 d => by
  simp only [cK] at *
  exact List.le_trans h1 d
 have tot : ∀ a b : List UInt8, (decide (a ≤ b) || decide (b ≤ a)) = true := fun a b => by
  simp only [cY, cK]
  exact List.le_total a b
 refine List.Perm.eq_of_pairwise (le := fun a b => decide (a ≤ b) = true) (fun a b _ _ h1 d => List.le_antisymm (by simpa using h1) (by simpa using d)) (dB le tot _) (dB le tot _) ?_
 exact (List.mergeSort_perm _ _).trans (h.trans (List.mergeSort_perm _ _).symm)
section
variable {P : Program} {ρk ρt ρm : Ren}
theorem wA (LK : SlLaysZ.n7 P ρk) (LT : SlLaysZ.n6 P ρt) (LM : SlLaysM.n6 P ρm) (h9 : ρt.f 9 = ρm.f 6) (hK : P.underlying (ρk.t 26) = some .string) (eg : ∀ args w, (callFunc (ρk.f 10) args).run P w = .ok (.enter (ρk.f 10) args) w) (es : ∀ args w, (callFunc (ρt.f 9) args).run P w = .ok (.enter (ρt.f 9) args) w) {β : Type} {vf : β → Value} {l : List (ByteArray × β)} {b : Nat} {mv : Value} {t : TypeId} {W : World} {r : List ByteArray} (u : W.heap[b]? = some (.cells #[mv] t (0, 0))) (hm : my Value.string vf (hp W) mv l) (hk : oF l = some r) :
  gY false P (ρt.f 6) [.func (.func (ρk.f 10)) #[] #[.pointer (some ⟨b, 0, none⟩)]] W (ρt.t 26) pN 1 r := by
 unfold oF at hk
 split at hk
 case isFalse => cases hk
 rename_i hc
 obtain ⟨R, T, U⟩ := hc
 cases hk
 have i : b < W.heap.size := (bL.1 u).1
 have c : W.cell? ⟨b, 0, none⟩ = some mv := by simp [World.cell?, u]
 have q : AnyZ.SortsIn P ρt Fence.wide 4 :=
  ⟨fun L off cap d W hH hblk s => callsIn_wide.2 (by rw [h9]; exact AnyM.slices_Sort_string LM L off cap d W hH hblk s), fun p cap W => callsIn_wide.2 (by rw [h9]; exact AnyM.slices_Sort_string_none LM p cap W)⟩
 have I : SeqGives Fence.wide 2 P (ρk.f 10) #[.pointer (some ⟨b, 0, none⟩)] encStr (fun d => d.Perm ((l.map (·.1)).map fun b => b.data.toList)) l.length W := by
  rcases hm with ⟨rfl, rfl⟩ | ⟨m, es, clock, rfl, a1, A⟩
  ·have := AnyZ.keys_gives_nil (ρ := ρk) { LK with } Fence.wide 2 trivial rfl b W i c
   intro l' J W' O M Q K
   refine CallsIn.mono (this l' J W' O M Q K) ?_
   rintro e w' ⟨hv, d, rfl, hj⟩
   exact ⟨hv, [], cD _, hj⟩
  ·obtain ⟨D, F, n, s⟩ := wI hK A R T (by unfold maxLen; omega) a1
   have := AnyZ.keys_gives (ρ := ρk) { LK with } Fence.wide 2 trivial rfl (by omega) b m es.size D W i c F
   intro l' J W' O M Q K
   refine CallsIn.mono (this l' J W' O M (by rw [s]; exact Q) K) ?_
   rintro e w' ⟨hv, d, hp, hj⟩
   refine ⟨hv, d, ?_, hj⟩
   rw [bV]
   exact hp.trans n
 have cS := AnyZ.sorted_in LT Fence.wide 5 trivial trivial trivial trivial rfl (by omega) q es (ρk.f 10) #[.pointer (some ⟨b, 0, none⟩)] trivial eg _ l.length (by unfold maxLen; omega) U W I
 refine bp (callsIn_wide.1 cS) ?_
 rintro e w' ⟨v, d, rfl, hS, G, a7, a⟩
 have hs := uJ hS
 have hlen : d.length = (lG (l.map (·.1))).length := by
  have := aH List.length hs
  simpa using this
 have k : (d.mergeSort (fun x y => decide (x ≤ y))).map encStr = ((lG (l.map (·.1))).map pN).flatten := by
  rw [hs, AS, bV]
  refine dV (fun x _ => ?_)
  simp only [Function.comp, encStr]
 rcases G.2 with ⟨rfl, K⟩ | ⟨g, cap, z, rfl, j, hg, a8, Y, Z, a6⟩
 ·have : lG (l.map (·.1)) = [] := cw (by omega)
  rw [this]
  exact ⟨_, [], rfl, jg.uY ⟨a.os, a.tape, a.output, fun h => (by cases h), a.size, fun b u => a.block b u⟩ (fun _ _ h => by cases h) (by simp), fN.nil _ _ _⟩
 ·refine ⟨_, [(g, .cells z (ρt.t 26) (0, 0))], rfl, jg.uY ⟨a.os, a.tape, a.output, fun h => (by cases h), a.size, fun b u => a.block b u⟩ (fun b o h => by simp at h; obtain ⟨rfl, rfl⟩ := h; exact ⟨hg, j⟩) (by simp), .inr ⟨g, cap, z, by rw [hlen], rfl, by omega, Y, Z, ?_⟩⟩
  rw [← hlen, a6, k]
end
end Go.Proofs.YtcafmokjkjcomaaGreat
namespace Go.Proofs.YtcafmokjkjcomaaGreat
open Go.IntKind renaming wrap → wi0
def dq := @Tryz.underlying9
def dA := @Tryz.zeroValue9
def dL := @Tryz.underlying0
def dS := @Tryz.zeroValue0
def dY := @Tryz.sizeOf9
def er := @Tryz.isAgg9
def et := @Tryz.underlying39
def eA := @Tryz.underlying4
def eB := @Tryz.zeroValue39
def eG := @Tryz.sizeOf0
def eQ := @Tryz.zeroValue4
def eV := @Tryz.isAgg0
def zQ : Go.Shelf.Ren := ⟨fun | 6 => 70 | 15 => 92 | 14 => 94 | 28 => 110 | 29 => 111 | 20 => 112 | 21 => 113 | 22 => 114 | 23 => 115 | 24 => 116 | 25 => 117 | 26 => 118 | 27 => 119 | 46 => 128 | 47 => 123 | 48 => 124 | 49 => 129 | 50 => 130 | 57 => 133 | n => n, fun | 22 => 41 | 24 => 35 | 25 => 116 | 3 => 3 | 39 => 132 | 0 => 0 | 53 => 153 | 55 => 117 | 4 => 4 | 46 => 145 | 45 => 144 | 50 => 150 | 5 => 5 | 9 => 9 | 66 => 161 | 70 => 165 | 76 => 169 | 77 => 170 | n => n, fun | n => n⟩
theorem BM : Go.Proofs.SlLaysF0.n6 Tryz.prog zQ := {
 mixed := by kernel_rfl,
 f6 := ⟨Tryz.f70.name, by decide, Tryz.func70.trans (aH some (by kernel_rfl))⟩,
 f14 := ⟨Tryz.f94.name, by decide, Tryz.func94.trans (aH some (by kernel_rfl))⟩,
 f15 := Tryz.func92.trans (aH some (by kernel_rfl)),
 f20 := ⟨Tryz.f112.name, by decide, Tryz.func112.trans (aH some (by kernel_rfl))⟩,
 f21 := ⟨Tryz.f113.name, by decide, Tryz.func113.trans (aH some (by kernel_rfl))⟩,
 f22 := ⟨Tryz.f114.name, by decide, Tryz.func114.trans (aH some (by kernel_rfl))⟩,
 f23 := ⟨Tryz.f115.name, by decide, Tryz.func115.trans (aH some (by kernel_rfl))⟩,
 f24 := ⟨Tryz.f116.name, by decide, Tryz.func116.trans (aH some (by kernel_rfl))⟩,
 f25 := ⟨Tryz.f117.name, by decide, Tryz.func117.trans (aH some (by kernel_rfl))⟩,
 f26 := ⟨Tryz.f118.name, by decide, Tryz.func118.trans (aH some (by kernel_rfl))⟩,
 f27 := ⟨Tryz.f119.name, by decide, Tryz.func119.trans (aH some (by kernel_rfl))⟩,
 f28 := Tryz.func110.trans (aH some (by kernel_rfl)),
 f29 := Tryz.func111.trans (aH some (by kernel_rfl)),
 f46 := ⟨Tryz.f128.name, by decide, Tryz.func128.trans (aH some (by kernel_rfl))⟩,
 f47 := Tryz.func123.trans (aH some (by kernel_rfl)),
 f48 := Tryz.func124.trans (aH some (by kernel_rfl)),
 f49 := ⟨Tryz.f129.name, by decide, Tryz.func129.trans (aH some (by kernel_rfl))⟩,
 f50 := ⟨Tryz.f130.name, by decide, Tryz.func130.trans (aH some (by kernel_rfl))⟩,
 f57 := ⟨Tryz.f133.name, by decide, Tryz.func133.trans (aH some (by kernel_rfl))⟩,
 t0 := dL,
 a0 := eV,
 z0 := eG,
 v0 := dS,
 t3 := Tryz.underlying3,
 a3 := Tryz.isAgg3,
 z3 := Tryz.sizeOf3,
 v3 := Tryz.zeroValue3,
 t4 := eA,
 a4 := Tryz.isAgg4,
 z4 := Tryz.sizeOf4,
 v4 := eQ,
 t5 := Tryz.underlying5,
 a5 := Tryz.isAgg5,
 z5 := Tryz.sizeOf5,
 v5 := Tryz.zeroValue5,
 t9 := dq,
 a9 := er,
 z9 := dY,
 v9 := dA,
 t22 := Tryz.underlying41,
 a22 := Tryz.isAgg41,
 z22 := Tryz.sizeOf41,
 v22 := Tryz.zeroValue41,
 t25 := Tryz.underlying116,
 a25 := Tryz.isAgg116,
 z25 := Tryz.sizeOf116,
 v25 := Tryz.zeroValue116,
 t39 := Tryz.underlying132,
 a39 := Tryz.isAgg132,
 z39 := Tryz.sizeOf132,
 v39 := Tryz.zeroValue132,
 t45 := Tryz.underlying144,
 a45 := Tryz.isAgg144,
 z45 := Tryz.sizeOf144,
 v45 := Tryz.zeroValue144,
 t46 := Tryz.underlying145,
 a46 := Tryz.isAgg145,
 z46 := Tryz.sizeOf145,
 v46 := Tryz.zeroValue145,
 t50 := Tryz.underlying150,
 a50 := Tryz.isAgg150,
 z50 := Tryz.sizeOf150,
 v50 := Tryz.zeroValue150,
 t53 := Tryz.underlying153,
 a53 := Tryz.isAgg153,
 z53 := Tryz.sizeOf153,
 v53 := Tryz.zeroValue153,
 t55 := Tryz.underlying117,
 a55 := Tryz.isAgg117,
 z55 := Tryz.sizeOf117,
 v55 := Tryz.zeroValue117,
 t66 := Tryz.underlying161,
 a66 := Tryz.isAgg161,
 z66 := Tryz.sizeOf161,
 v66 := Tryz.zeroValue161,
 t70 := Tryz.underlying165,
 a70 := Tryz.isAgg165,
 z70 := Tryz.sizeOf165,
 v70 := Tryz.zeroValue165,
 t76 := Tryz.underlying169,
 a76 := Tryz.isAgg169,
 z76 := Tryz.sizeOf169,
 v76 := Tryz.zeroValue169,
 t77 := Tryz.underlying170,
 a77 := Tryz.isAgg170,
 z77 := Tryz.sizeOf170,
 v77 := Tryz.zeroValue170}
def BH : Go.Shelf.Ren := ⟨fun | 6 => 65 | 8 => 92 | 9 => 91 | 19 => 110 | 20 => 111 | 21 => 101 | 22 => 102 | 23 => 103 | 24 => 104 | 25 => 105 | 26 => 106 | 27 => 107 | 28 => 108 | 29 => 109 | 36 => 122 | 31 => 123 | 32 => 124 | 37 => 125 | 38 => 126 | 39 => 127 | 41 => 132 | n => n, fun | 27 => 39 | 29 => 9 | 3 => 3 | 32 => 132 | 26 => 39 | 0 => 0 | 44 => 153 | 46 => 117 | 4 => 4 | 36 => 145 | 35 => 144 | 41 => 150 | 5 => 5 | 9 => 9 | 53 => 161 | 57 => 165 | 63 => 169 | 64 => 170 | n => n, fun | n => n⟩
theorem BP : Go.Proofs.SlLaysM.n6 Tryz.prog BH := {
 mixed := by kernel_rfl,
 f6 := ⟨Tryz.f65.name, by decide, Tryz.func65.trans (aH some (by kernel_rfl))⟩,
 f8 := Tryz.func92.trans (aH some (by kernel_rfl)),
 f9 := ⟨Tryz.f91.name, by decide, Tryz.func91.trans (aH some (by kernel_rfl))⟩,
 f19 := Tryz.func110.trans (aH some (by kernel_rfl)),
 f20 := Tryz.func111.trans (aH some (by kernel_rfl)),
 f21 := ⟨Tryz.f101.name, by decide, Tryz.func101.trans (aH some (by kernel_rfl))⟩,
 f22 := ⟨Tryz.f102.name, by decide, Tryz.func102.trans (aH some (by kernel_rfl))⟩,
 f23 := ⟨Tryz.f103.name, by decide, Tryz.func103.trans (aH some (by kernel_rfl))⟩,
 f24 := ⟨Tryz.f104.name, by decide, Tryz.func104.trans (aH some (by kernel_rfl))⟩,
 f25 := ⟨Tryz.f105.name, by decide, Tryz.func105.trans (aH some (by kernel_rfl))⟩,
 f26 := ⟨Tryz.f106.name, by decide, Tryz.func106.trans (aH some (by kernel_rfl))⟩,
 f27 := ⟨Tryz.f107.name, by decide, Tryz.func107.trans (aH some (by kernel_rfl))⟩,
 f28 := ⟨Tryz.f108.name, by decide, Tryz.func108.trans (aH some (by kernel_rfl))⟩,
 f29 := ⟨Tryz.f109.name, by decide, Tryz.func109.trans (aH some (by kernel_rfl))⟩,
 f31 := Tryz.func123.trans (aH some (by kernel_rfl)),
 f32 := Tryz.func124.trans (aH some (by kernel_rfl)),
 f36 := ⟨Tryz.f122.name, by decide, Tryz.func122.trans (aH some (by kernel_rfl))⟩,
 f37 := ⟨Tryz.f125.name, by decide, Tryz.func125.trans (aH some (by kernel_rfl))⟩,
 f38 := ⟨Tryz.f126.name, by decide, Tryz.func126.trans (aH some (by kernel_rfl))⟩,
 f39 := ⟨Tryz.f127.name, by decide, Tryz.func127.trans (aH some (by kernel_rfl))⟩,
 f41 := ⟨Tryz.f132.name, by decide, Tryz.func132.trans (aH some (by kernel_rfl))⟩,
 t0 := dL,
 a0 := eV,
 z0 := eG,
 v0 := dS,
 t3 := Tryz.underlying3,
 a3 := Tryz.isAgg3,
 z3 := Tryz.sizeOf3,
 v3 := Tryz.zeroValue3,
 t4 := eA,
 a4 := Tryz.isAgg4,
 z4 := Tryz.sizeOf4,
 v4 := eQ,
 t5 := Tryz.underlying5,
 a5 := Tryz.isAgg5,
 z5 := Tryz.sizeOf5,
 v5 := Tryz.zeroValue5,
 t9 := dq,
 a9 := er,
 z9 := dY,
 v9 := dA,
 t26 := et,
 a26 := Tryz.isAgg39,
 z26 := Tryz.sizeOf39,
 v26 := eB,
 t27 := et,
 a27 := Tryz.isAgg39,
 z27 := Tryz.sizeOf39,
 v27 := eB,
 t29 := dq,
 a29 := er,
 z29 := dY,
 v29 := dA,
 t32 := Tryz.underlying132,
 a32 := Tryz.isAgg132,
 z32 := Tryz.sizeOf132,
 v32 := Tryz.zeroValue132,
 t35 := Tryz.underlying144,
 a35 := Tryz.isAgg144,
 z35 := Tryz.sizeOf144,
 v35 := Tryz.zeroValue144,
 t36 := Tryz.underlying145,
 a36 := Tryz.isAgg145,
 z36 := Tryz.sizeOf145,
 v36 := Tryz.zeroValue145,
 t41 := Tryz.underlying150,
 a41 := Tryz.isAgg150,
 z41 := Tryz.sizeOf150,
 v41 := Tryz.zeroValue150,
 t44 := Tryz.underlying153,
 a44 := Tryz.isAgg153,
 z44 := Tryz.sizeOf153,
 v44 := Tryz.zeroValue153,
 t46 := Tryz.underlying117,
 a46 := Tryz.isAgg117,
 z46 := Tryz.sizeOf117,
 v46 := Tryz.zeroValue117,
 t53 := Tryz.underlying161,
 a53 := Tryz.isAgg161,
 z53 := Tryz.sizeOf161,
 v53 := Tryz.zeroValue161,
 t57 := Tryz.underlying165,
 a57 := Tryz.isAgg165,
 z57 := Tryz.sizeOf165,
 v57 := Tryz.zeroValue165,
 t63 := Tryz.underlying169,
 a63 := Tryz.isAgg169,
 z63 := Tryz.sizeOf169,
 v63 := Tryz.zeroValue169,
 t64 := Tryz.underlying170,
 a64 := Tryz.isAgg170,
 z64 := Tryz.sizeOf170,
 v64 := Tryz.zeroValue170}
def Ba : Go.Shelf.Ren := ⟨fun | 7 => 38 | 10 => 66 | n => n, fun | 23 => 74 | 26 => 9 | 3 => 36 | 28 => 86 | 0 => 0 | 27 => 85 | 33 => 78 | 4 => 4 | n => n, fun | n => n⟩
theorem A6 : Go.Proofs.SlLaysZ.n7 Tryz.prog Ba := {
 mixed := by kernel_rfl,
 f7 := ⟨Tryz.f38.name, by decide, Tryz.func38.trans (aH some (by kernel_rfl))⟩,
 f10 := ⟨Tryz.f66.name, by decide, Tryz.func66.trans (aH some (by kernel_rfl))⟩,
 t0 := dL,
 a0 := eV,
 z0 := eG,
 v0 := dS,
 t4 := eA,
 a4 := Tryz.isAgg4,
 z4 := Tryz.sizeOf4,
 v4 := eQ,
 t23 := Tryz.underlying74,
 a23 := Tryz.isAgg74,
 z23 := Tryz.sizeOf74,
 v23 := Tryz.zeroValue74,
 t26 := dq,
 a26 := er,
 z26 := dY,
 v26 := dA,
 t27 := Tryz.underlying85,
 a27 := Tryz.isAgg85,
 z27 := Tryz.sizeOf85,
 v27 := Tryz.zeroValue85,
 t28 := Tryz.underlying86,
 a28 := Tryz.isAgg86,
 z28 := Tryz.sizeOf86,
 v28 := Tryz.zeroValue86,
 t33 := Tryz.underlying78,
 a33 := Tryz.isAgg78,
 z33 := Tryz.sizeOf78,
 v33 := Tryz.zeroValue78}
def AU : Go.Shelf.Ren := ⟨fun | 6 => 37 | 8 => 64 | 9 => 65 | 11 => 90 | 13 => 92 | 12 => 91 | 23 => 110 | 24 => 111 | 14 => 101 | 15 => 102 | 16 => 103 | 17 => 104 | 18 => 105 | 19 => 106 | 20 => 107 | 21 => 108 | 22 => 109 | 25 => 122 | 26 => 123 | 27 => 124 | 28 => 125 | 29 => 126 | 30 => 127 | 31 => 132 | n => n, fun | 26 => 9 | 28 => 86 | 24 => 39 | 0 => 0 | 3 => 3 | 37 => 132 | 48 => 153 | 50 => 117 | 4 => 4 | 40 => 145 | 39 => 144 | 45 => 150 | 5 => 5 | 9 => 9 | 51 => 161 | 55 => 165 | 57 => 169 | 58 => 170 | 33 => 78 | n => n, fun | n => n⟩
theorem Bi : Go.Proofs.SlLaysZ.n6 Tryz.prog AU := {
 mixed := by kernel_rfl,
 f6 := ⟨Tryz.f37.name, by decide, Tryz.func37.trans (aH some (by kernel_rfl))⟩,
 f8 := ⟨Tryz.f64.name, by decide, Tryz.func64.trans (aH some (by kernel_rfl))⟩,
 f11 := ⟨Tryz.f90.name, by decide, Tryz.func90.trans (aH some (by kernel_rfl))⟩,
 t0 := dL,
 a0 := eV,
 z0 := eG,
 v0 := dS,
 t24 := et,
 a24 := Tryz.isAgg39,
 z24 := Tryz.sizeOf39,
 v24 := eB,
 t26 := dq,
 a26 := er,
 z26 := dY,
 v26 := dA,
 t28 := Tryz.underlying86,
 a28 := Tryz.isAgg86,
 z28 := Tryz.sizeOf86,
 v28 := Tryz.zeroValue86,
 i26 := by kernel_rfl}
end Go.Proofs.YtcafmokjkjcomaaGreat
namespace Go.Proofs.YtcafmokjkjcomaaGreat
open Go.IntKind renaming wrap → wi0
open Go.RowKit
set_option maxRecDepth 10000
noncomputable section
structure fu where
 eY : ByteArray
 eZ : ByteArray
def fC (x : fu) : List Value := [.string x.eY, .string x.eZ]
def ie (x y : fu) : Bool := (fU x.eY y.eY) && ((fU x.eZ y.eZ) && true)
theorem jM {x y : fu} : ie x y = true ↔ x = y := by
 cases x; cases y; simp [ie, gz]
theorem jD (x : fu) : ∀ u ∈ fC x, u.oneCell' = true := by
 intro u hu
 simp only [fC, aF, bi, cC] at hu
 rcases hu with rfl | rfl <;> rfl
structure eX where
 Kind : Int
 Head : fu
 fD : ByteArray
 B : fu
 C : fu
 fw : ByteArray
def fa (x : eX) : List Value := [.int .i64 x.Kind, .string x.Head.eY, .string x.Head.eZ, .string x.fD, .string x.B.eY, .string x.B.eZ, .string x.C.eY, .string x.C.eZ, .string x.fw]
def jF (x y : eX) : Bool := (x.Kind == y.Kind) && ((ie x.Head y.Head) && ((fU x.fD y.fD) && ((ie x.B y.B) && ((ie x.C y.C) && ((fU x.fw y.fw) && true)))))
theorem sw {x y : eX} : jF x y = true ↔ x = y := by
 cases x; cases y; simp [jF, gz, jM]
theorem iC (x : eX) : (fa x).length = 9 := rfl
theorem iA (x : eX) : ∀ u ∈ fa x, u.oneCell' = true := by
 intro u hu
 simp only [fa, aF, bi, cC] at hu
 rcases hu with rfl | rfl | rfl | rfl | rfl | rfl | rfl | rfl | rfl <;> rfl
structure Key where
 fD : ByteArray
 Key : List Int
structure ft where
 eX : eX
 Tag : List Int
structure gf where
 m : List (ByteArray × (List Int))
def ij (a0 : ByteArray) (a : Int) : Option Int :=
 some (nf a0 a)
def jx (a0 : ByteArray) (a : Int) : Option Int :=
 ((ij a0 a).bind fun c => some c)
def lE  : List Int → Option Bool
 | [] => some true
 | d :: a => ((jx (⟨#[97, 98, 99, 100, 101, 102, 103, 104, 105, 106, 107, 108, 109, 110, 111, 112, 113, 114, 115, 116, 117, 118, 119, 120, 121, 122, 48, 49, 50, 51, 52, 53, 54, 55, 56, 57, 45]⟩ : ByteArray) d).bind fun c => (if (decide (c < 0)) then some false else (lE a)))
def pU (a0 : ByteArray) : Option Bool :=
 ((nZ a0).bind fun a => lE a)
def iL (a0 : ByteArray) : Option Bool :=
 ((if (decide ((a0.size : Int) ≥ 1)) then some (decide ((a0.size : Int) ≤ 16)) else some false).bind fun x2 => ((if x2 then ((nH a0 0).bind fun a => ((jx (⟨#[97, 98, 99, 100, 101, 102, 103, 104, 105, 106, 107, 108, 109, 110, 111, 112, 113, 114, 115, 116, 117, 118, 119, 120, 121, 122]⟩ : ByteArray) (a.toNat : Int)).bind fun d => some (decide (d ≥ 0)))) else some false).bind fun g => ((if g then ((pU a0).bind fun c => some c) else some false).bind fun h => some h)))
def gN (a0 : List Int) : Option (List Int) :=
 ((lV 1 ([]) a0).bind fun a => some a)
def kY  : List Key → (List (ByteArray × (List Int))) → Option ((Option gf) × Int)
 | [], c => some ((some (⟨c⟩ : gf)), 0)
 | a :: d, c => ((iL a.fD).bind fun h => (if (!h) then some (none, 30) else ((if (decide ((a.Key.length : Int) < 1)) then some true else some (decide ((a.Key.length : Int) > 32))).bind fun j => (if j then some (none, 21) else (if (iu fU c a.fD).isSome then some (none, 41) else ((gN a.Key).bind fun i => ((wj fU c a.fD i).bind fun g => (kY d g))))))))
def nQ (a0 : List Key) : Option ((Option gf) × Int) :=
 kY a0 ([])
def ja (a0 : fu) : Option Bool :=
 ((iL a0.eY).bind fun d => ((if d then ((iL a0.eZ).bind fun a => some a) else some false).bind fun c => some c))
def iT (a0 a : ByteArray) : Option Int :=
 some (lj a0 a)
def lC (a0 a : ByteArray) : Option Int :=
 ((iT a0 a).bind fun c => some c)
def mA  : List Int → Option Int
 | [] => some 0
 | a :: c => (if (a != 0) then some a else (mA c))
def pv (a0 : List Int) : Option Int :=
 mA a0
def mU (a0 g : fu) : Option Int :=
 ((lC a0.eY g.eY).bind fun a => ((lC a0.eZ g.eZ).bind fun c => ((pv ([a, c])).bind fun d => some d)))
def jc (a0 : eX) : Option Bool :=
 ((ja a0.Head).bind fun A => (((if (a0.Kind == 1) then ((if A then ((iL a0.fD).bind fun c => some c) else some false).bind fun q => some (Sum.inr (q, (⟨a0.Kind, a0.Head, a0.fD, (⟨zS, zS⟩ : fu), (⟨zS, zS⟩ : fu), zS⟩ : eX)))) else (if (a0.Kind == 2) then ((if A then ((ja a0.B).bind fun d => some d) else some false).bind fun t => some (Sum.inr (t, (⟨a0.Kind, a0.Head, zS, a0.B, (⟨zS, zS⟩ : fu), zS⟩ : eX)))) else (if (a0.Kind == 3) then ((if A then ((ja a0.B).bind fun h => some h) else some false).bind fun u => ((if u then some (fU a0.B.eY a0.Head.eY) else some false).bind fun v => ((if v then ((iL a0.fw).bind fun g => some g) else some false).bind fun w => some (Sum.inr (w, (⟨a0.Kind, a0.Head, zS, a0.B, (⟨zS, zS⟩ : fu), a0.fw⟩ : eX)))))) else (if (a0.Kind == 4) then ((if A then ((ja a0.B).bind fun k => some k) else some false).bind fun x => ((if x then ((ja a0.C).bind fun j => some j) else some false).bind fun y => ((if y then ((mU a0.B a0.C).bind fun i => some (decide (i < 0))) else some false).bind fun z => some (Sum.inr (z, (⟨a0.Kind, a0.Head, zS, a0.B, a0.C, zS⟩ : eX)))))) else some (Sum.inl false))))) : Option (Bool ⊕ (Bool × eX))).bind fun s => match s with | .inl a => some a | .inr (n, o) => ((if n then some (jF o a0) else some false).bind fun p => some p)))
def jO (a0 : Option gf) (c : eX) : Option ((List Int) × Int) :=
 (if a0.isNone then some ([], 1) else ((jc c).bind fun d => (if (!d) then some ([], 11) else (a0.bind fun a => (if (!((iu fU a.m c.Head.eY).isSome)) then some ([], 21) else some (((iu fU a.m c.Head.eY).getD []), 0))))))
def iI  : Nat → Int → (List Int) → Option (Bool × (List Int))
 | 0, _, _ => none
 | h + 1, a, d => (if (decide (a ≥ 128)) then ((lV 1 d ([(IntKind.u8.wrap (BitVec.ofInt (IntKind.bits .u8) (IntKind.u8.wrap a) ||| BitVec.ofInt (IntKind.bits .u8) 128).toNat)])).bind fun g => (iI h (Int.fdiv a (2 ^ min (Int.toNat 7) (IntKind.bits .i64))) g)) else ((lV 1 d ([(IntKind.u8.wrap a)])).bind fun c => some (true, c)))
def jw (a : List Int) (c : Int) : Option (Bool × (List Int)) :=
 (if (decide (c < 0)) then some (false, a) else iI iv c a)
def ko (a c : List Int) : Option (Bool × (List Int)) :=
 (if (decide ((c.length : Int) > 2048)) then some (false, a) else ((jw a (c.length : Int)).bind fun g => ((lV 1 g.2 c).bind fun d => some (true, d))))
def kH (a : List Int) (i : ByteArray) : Option (Bool × (List Int)) :=
 ((iL i).bind fun j => (((if j then ((nZ i).bind fun g => ((ko a g).bind fun c => some (c.1, c.2))) else some (false, a)) : Option (Bool × (List Int))).bind fun (h, d) => some (h, d)))
def iZ (a : List Int) (h : fu) : Option (Bool × (List Int)) :=
 ((ja h).bind fun n => (((if n then ((kH a h.eY).bind fun g => some (g.1, g.2)) else some (false, a)) : Option (Bool × (List Int))).bind fun (j, c) => (((if j then ((kH c h.eZ).bind fun d => some (d.1, d.2)) else some (false, c)) : Option (Bool × (List Int))).bind fun (k, i) => some (k, i))))
def iy (a : List Int) : Option (List Int) :=
 ((gN a).bind fun c => some c)
def jb (a0 : eX) : Option (List Int) :=
 ((jc a0).bind fun o => (if (!o) then some [] else ((jw ([]) a0.Kind).bind fun p => ((iZ p.2 a0.Head).bind fun a => (((if (a0.Kind == 1) then ((kH a.2 a0.fD).bind fun g => some g.2) else (if (a0.Kind == 2) then ((iZ a.2 a0.B).bind fun h => some h.2) else (if (a0.Kind == 3) then ((iZ a.2 a0.B).bind fun i => ((kH i.2 a0.fw).bind fun j => some j.2)) else (if (a0.Kind == 4) then ((iZ a.2 a0.B).bind fun k => ((iZ k.2 a0.C).bind fun n => some n.2)) else some a.2)))) : Option (List Int)).bind fun c => ((iy c).bind fun d => some d))))))
def jH (a0 : List Int) : Option Bool :=
 ((if (decide ((a0.length : Int) ≥ 1)) then some (decide ((a0.length : Int) ≤ 32)) else some false).bind fun x2 => some x2)
def mG  : List Int → Int → Option Int
 | [], a => some a
 | d :: c, a => (mG c (IntKind.u64.wrap ((IntKind.u64.wrap (BitVec.ofInt (IntKind.bits .u64) a ^^^ BitVec.ofInt (IntKind.bits .u64) (IntKind.u64.wrap d)).toNat) * 1099511628211)))
def mL  : List (List Int) → Int → Option Int
 | [], a => some a
 | d :: c, a => ((mG d a).bind fun g => (mL c g))
def rC (a0 : List (List Int)) : Option Int :=
 mL a0 14695981039346656037
def ki (c : Int) : List Int → Nat → (List Int) → Option (List Int)
 | [], _, a => some a
 | h :: d, i68, a => ((kO (decide (0 ≤ (wi0 .i64 (8 * (wi0 .i64 (7 - (i68 : Int)))))))).bind fun _ => ((kk a (i68 : Int)).bind fun g => (ki c d (i68 + 1) (a.set (Int.toNat (i68 : Int)) (IntKind.u8.wrap (Int.fdiv c (2 ^ min (Int.toNat (wi0 .i64 (8 * (wi0 .i64 (7 - (i68 : Int)))))) (IntKind.bits .u64))))))))
def nO (a0 d : List Int) : Option (List Int) :=
 ((jH a0).bind fun g => (if (!g) then some [] else ((rC ([[(IntKind.u8.wrap (a0.length : Int))], a0, d, a0])).bind fun c => ((qn 1 0 8).bind fun a => ki c a 0 a))))
def kw (a0 : Option gf) (a : eX) : Option (ft × Int) :=
 ((jO a0 a).bind fun c => (if (c.2 != 0) then some ((⟨(⟨0, (⟨zS, zS⟩ : fu), zS, (⟨zS, zS⟩ : fu), (⟨zS, zS⟩ : fu), zS⟩ : eX), []⟩ : ft), c.2) else ((jb a).bind fun d => ((nO c.1 d).bind fun g => some ((⟨a, g⟩ : ft), 0)))))
def nu (a0 a : List Int) : Option Bool :=
 some (fU (jo a0) (jo a))
def mY (a0 g a2 : List Int) : Option Bool :=
 ((jH a0).bind fun h => ((if h then ((nO a0 g).bind fun a => ((nu a a2).bind fun c => some c)) else some false).bind fun d => some d))
def gF (a0 : Option gf) (g : ft) : Option Int :=
 ((jO a0 g.eX).bind fun h => ((if (h.2 == 0) then ((jb g.eX).bind fun a => ((mY h.1 a g.Tag).bind fun c => some (!c))) else some false).bind fun d => (if d then some 20 else some h.2)))
def js (a0 : List eX) : Option (List eX) :=
 ((lV 136 ([]) a0).bind fun a => some a)
def iq (f1 : eX → Option Bool) : List eX → Nat → Option Int
 | [], _ => some (-1)
 | d :: a, i35 => ((f1 d).bind fun c => (if c then some (i35 : Int) else (iq f1 a (i35 + 1))))
def kQ (a0 : List eX) (f1 : eX → Option Bool) : Option Int :=
 iq f1 a0 0
def gG (f1 : eX → Option Bool) : Nat → (List eX) → Int → Int → Option (List eX)
 | 0, _, _, _ => none
 | n321 + 1, c, a, d => (if (decide (d < (c.length : Int))) then ((((kk c d).bind fun g => ((f1 g).bind fun i => (if (!i) then ((kk c a).bind fun k => some ((c.set (Int.toNat a) g), (wi0 .i64 (a + 1)))) else some (c, a)))) : Option ((List eX) × Int)).bind fun (h, j) => (gG f1 n321 h j (wi0 .i64 (d + 1)))) else ((kO (decide (0 ≤ a) && decide (a ≤ (c.length : Int)))).bind fun _ => ((kO (decide (0 ≤ a) && decide (a ≤ ((jR c (Int.toNat a) (⟨0, (⟨zS, zS⟩ : fu), zS, (⟨zS, zS⟩ : fu), (⟨zS, zS⟩ : fu), zS⟩ : eX)).length : Int)))).bind fun _ => some ((jR c (Int.toNat a) (⟨0, (⟨zS, zS⟩ : fu), zS, (⟨zS, zS⟩ : fu), (⟨zS, zS⟩ : fu), zS⟩ : eX)).take (Int.toNat a)))))
def je (a0 : List eX) (f1 : eX → Option Bool) : Option (List eX) :=
 ((kQ a0 f1).bind fun a => (if (a == (-1)) then some a0 else gG f1 iv a0 a (wi0 .i64 (a + 1))))
def nv (a0 : eX) : Option Bool :=
 ((jc a0).bind fun a => some (!a))
def pR (a0 a : List Int) : Option Int :=
 some (oO a0 a)
def kC (a0 g : eX) : Option Int :=
 ((jb a0).bind fun a => ((jb g).bind fun c => ((pR a c).bind fun d => some d)))
def gZ (c : Int) : Nat → (List eX) → Int → Int → Option ((List eX) × Int)
 | 0, _, _, _ => none
 | i + 1, a, d, g => (if (decide (g < ((a.length - (Int.toNat c) : Nat) : Int))) then ((((kk (a.drop (Int.toNat c)) g).bind fun k => ((kk (a.drop (Int.toNat c)) (wi0 .i64 (g - 1))).bind fun n => (if (!(jF k n)) then ((kk (a.drop (Int.toNat c)) g).bind fun o => ((kk a d).bind fun p => some ((a.set (Int.toNat d) o), (wi0 .i64 (d + 1))))) else some (a, d)))) : Option ((List eX) × Int)).bind fun (h, j) => (gZ c i h j (wi0 .i64 (g + 1)))) else some (a, d))
def hU (a0 : List eX) : Nat → Int → Option (List eX)
 | 0, _ => none
 | g + 1, a => (if (decide (a < (a0.length : Int))) then ((kk a0 a).bind fun h => ((kk a0 (wi0 .i64 (a - 1))).bind fun i => (if (jF h i) then ((kO (decide (0 ≤ a) && decide (a ≤ (a0.length : Int)))).bind fun _ => ((gZ a iv a0 a 1).bind fun (d, c) => ((kO (decide (0 ≤ c) && decide (c ≤ (d.length : Int)))).bind fun _ => ((kO (decide (0 ≤ c) && decide (c ≤ ((jR d (Int.toNat c) (⟨0, (⟨zS, zS⟩ : fu), zS, (⟨zS, zS⟩ : fu), (⟨zS, zS⟩ : fu), zS⟩ : eX)).length : Int)))).bind fun _ => some ((jR d (Int.toNat c) (⟨0, (⟨zS, zS⟩ : fu), zS, (⟨zS, zS⟩ : fu), (⟨zS, zS⟩ : fu), zS⟩ : eX)).take (Int.toNat c)))))) else (hU a0 g (wi0 .i64 (a + 1)))))) else some a0)
def ke (a0 : List eX) : Option (List eX) :=
 (if (decide ((a0.length : Int) < 2)) then some a0 else hU a0 iv 1)
def od (a0 : List eX) : Option (List eX) :=
 ((js a0).bind fun g => ((je g (fun (x : eX) => nv x)).bind fun a => ((pH (fun (x : (eX × eX)) => kC x.1 x.2) a).bind fun c => ((ke c).bind fun d => some d))))
def gK (a0 : Option gf) : List ft → (List eX) → Option (List eX)
 | [], a => ((od a).bind fun h => some h)
 | i :: c, a => ((gF a0 i).bind fun g => (if (g == 0) then ((lV 136 a ([i.eX])).bind fun d => (gK a0 c d)) else (gK a0 c a)))
def mc (a0 : Option gf) (a : List ft) : Option (List eX) :=
 gK a0 a ([])
def kJ  : List eX → Int → Option Int
 | [], c => some c
 | a :: d, c => (kJ d (wi0 .i64 (c + (wi0 .i64 ((wi0 .i64 ((wi0 .i64 ((wi0 .i64 ((wi0 .i64 ((wi0 .i64 ((wi0 .i64 ((wi0 .i64 (20 + (a.Head.eY.size : Int))) + (a.Head.eZ.size : Int))) + (a.fD.size : Int))) + (a.B.eY.size : Int))) + (a.B.eZ.size : Int))) + (a.C.eY.size : Int))) + (a.C.eZ.size : Int))) + (a.fw.size : Int))))))
def oY (a0 : List eX) : Option Int :=
 kJ a0 0
def kK  : List ft → Int → Option Int
 | [], a => some a
 | c :: d, a => ((oY ([c.eX])).bind fun g => (kK d (wi0 .i64 (a + (wi0 .i64 (g + (c.Tag.length : Int)))))))
def jz (h : List ft) : List Key → Int → Option Int
 | [], a => ((kK h a).bind fun c => some c)
 | d :: g, a => (jz h g (wi0 .i64 (a + (wi0 .i64 ((wi0 .i64 (10 + (d.fD.size : Int))) + (d.Key.length : Int))))))
def pc (a0 : List Key) (a : List ft) : Option Int :=
 jz a a0 0
def iR (a0 : ByteArray) : Nat → Int → Option Bool
 | 0, _ => none
 | d + 1, c => (if (decide (c < (a0.size : Int))) then ((nH a0 c).bind fun a => ((if (decide ((a.toNat : Int) < 97)) then some true else some (decide ((a.toNat : Int) > 122))).bind fun g => ((if g then ((if (decide ((a.toNat : Int) < 48)) then some true else some (decide ((a.toNat : Int) > 57))).bind fun j => some j) else some false).bind fun h => ((if h then some ((a.toNat : Int) != 45) else some false).bind fun i => (if i then some false else (iR a0 d (wi0 .i64 (c + 1)))))))) else some true)
def jn (a0 : ByteArray) : Option Bool :=
 ((if (fU a0 zS) then some true else some (decide ((a0.size : Int) > 16))).bind fun x2 => ((if x2 then some true else ((nH a0 0).bind fun c => some (decide ((c.toNat : Int) < 97)))).bind fun d => ((if d then some true else ((nH a0 0).bind fun a => some (decide ((a.toNat : Int) > 122)))).bind fun g => (if g then some false else iR a0 iv 0))))
def kU (a0 : fu) : Option Bool :=
 ((jn a0.eY).bind fun d => ((if d then ((jn a0.eZ).bind fun a => some a) else some false).bind fun c => some c))
def ob (a0 a : fu) : Option Bool :=
 ((if (oV a0.eY a.eY) then some true else ((if (fU a0.eY a.eY) then some (oV a0.eZ a.eZ) else some false).bind fun d => some d)).bind fun c => some c)
def iP (a0 : eX) : Option Bool :=
 ((kU a0.Head).bind fun v => (if (!v) then some false else (if (a0.Kind == 1) then ((jn a0.fD).bind fun i => ((if i then some (ie a0.B (⟨zS, zS⟩ : fu)) else some false).bind fun k => ((if k then some (ie a0.C (⟨zS, zS⟩ : fu)) else some false).bind fun n => ((if n then some (fU a0.fw zS) else some false).bind fun o => some o)))) else ((if (!(fU a0.fD zS)) then some true else ((kU a0.B).bind fun d => some (!d))).bind fun p => (if p then some false else (if (a0.Kind == 2) then ((if (ie a0.C (⟨zS, zS⟩ : fu)) then some (fU a0.fw zS) else some false).bind fun q => some q) else (if (a0.Kind == 3) then ((if (ie a0.C (⟨zS, zS⟩ : fu)) then some (fU a0.B.eY a0.Head.eY) else some false).bind fun s => ((if s then ((jn a0.fw).bind fun j => some j) else some false).bind fun t => some t)) else ((if (a0.Kind == 4) then some (fU a0.fw zS) else some false).bind fun u => ((if u then ((kU a0.C).bind fun c => some c) else some false).bind fun g => ((if g then ((ob a0.B a0.C).bind fun a => some a) else some false).bind fun h => some h))))))))))
def km  : Nat → Int → ByteArray → Option ByteArray
 | 0, _, _ => none
 | n45 + 1, a, c => (if (decide (a ≥ 128)) then ((mw c (jo ([(IntKind.u8.wrap (wi0 .i64 (128 + (Int.tmod a 128))))]))).bind fun d => (km n45 (wi0 .i64 (Int.tdiv a 128)) d)) else ((mw c (jo ([(IntKind.u8.wrap a)]))).bind fun g => some g))
def lN (a0 : Int) : Option ByteArray :=
 km iv a0 zS
def iO (a0 : ByteArray) : Option ByteArray :=
 ((lN (a0.size : Int)).bind fun a => ((mw a a0).bind fun c => some c))
def kX (a0 : fu) : Option ByteArray :=
 ((iO a0.eY).bind fun a => ((iO a0.eZ).bind fun c => ((mw a c).bind fun d => some d)))
def kf (a0 : eX) : Option ByteArray :=
 ((lN a0.Kind).bind fun g => ((kX a0.Head).bind fun h => ((mw g h).bind fun a => (if (a0.Kind == 1) then ((iO a0.fD).bind fun i => ((mw a i).bind fun o => some o)) else ((kX a0.B).bind fun j => ((mw a j).bind fun c => (((if (a0.Kind == 3) then ((iO a0.fw).bind fun n => ((mw c n).bind fun q => some q)) else some c) : Option ByteArray).bind fun d => (((if (a0.Kind == 4) then ((kX a0.C).bind fun k => ((mw d k).bind fun p => some p)) else some d) : Option ByteArray).bind fun s => some s))))))))
def lI (a0 : ByteArray) : Nat → Int → Int → Option Int
 | 0, _, _ => none
 | n38 + 1, c, a => (if (decide (a < (a0.size : Int))) then ((nH a0 a).bind fun d => (lI a0 n38 (IntKind.u64.wrap ((IntKind.u64.wrap (BitVec.ofInt (IntKind.bits .u64) c ^^^ BitVec.ofInt (IntKind.bits .u64) (IntKind.u64.wrap (d.toNat : Int))).toNat) * 1099511628211)) (wi0 .i64 (a + 1)))) else some c)
def pZ (a0 : ByteArray) : Option Int :=
 lI a0 iv 14695981039346656037 0
def jh  : Nat → Int → ByteArray → Int → Option ByteArray
 | 0, _, _, _ => none
 | g + 1, a, c, d => (if (decide (d < 8)) then ((mw (jo ([(IntKind.u8.wrap (Int.tmod a 256))])) c).bind fun h => (jh g (IntKind.u64.wrap (Int.tdiv a 256)) h (wi0 .i64 (d + 1)))) else some c)
def pt (a0 a : ByteArray) : Option ByteArray :=
 ((mw (jo ([(IntKind.u8.wrap (a0.size : Int))])) a0).bind fun d => ((mw d a).bind fun g => ((mw g a0).bind fun h => ((pZ h).bind fun c => jh iv c zS 0))))
def mQ (a0 c : ft) : Option Bool :=
 ((if (jF a0.eX c.eX) then some (fU (jo a0.Tag) (jo c.Tag)) else some false).bind fun a => some a)
def mS (d : eX) : List Key → Option (ByteArray × Int)
 | [] => some (zS, 21)
 | a :: c => (if (fU a.fD d.Head.eY) then some ((jo a.Key), 0) else (mS d c))
def su (a0 : List Key) (a : eX) : Option (ByteArray × Int) :=
 ((iP a).bind fun c => (if (!c) then some (zS, 11) else mS a a0))
def oW (a0 : List Key) (a : ft) : Option Int :=
 ((su a0 a.eX).bind fun c => ((if (c.2 == 0) then ((kf a.eX).bind fun d => ((pt c.1 d).bind fun g => some (!(fU g (jo a.Tag))))) else some false).bind fun h => (if h then some 20 else some c.2)))
def mi (a0 : eX) : Option ByteArray :=
 ((iP a0).bind fun a => (if (!a) then some zS else ((kf a0).bind fun c => some c)))
def lc (a0 d : eX) : Option Int :=
 ((mi a0).bind fun a => ((mi d).bind fun c => (if (oV a c) then some (-1) else (if (!(oV a c || fU a c)) then some 1 else some 0))))
def kD (a : List eX) : List eX → Bool → eX → Option (Bool × eX)
 | [], d, g => some (d, g)
 | c :: h, d, g => ((iP c).bind fun i => ((if i then ((if ((a.length : Int) == 0) then some true else ((kk a (wi0 .i64 ((a.length : Int) - 1))).bind fun s => ((lc s c).bind fun k => some (decide (k < 0))))).bind fun q => some q) else some false).bind fun n => ((if n then ((if (!d) then some true else ((lc c g).bind fun j => some (decide (j < 0)))).bind fun p => some p) else some false).bind fun o => (if o then (kD a h true c) else (kD a h d g)))))
def mW (a0 : List eX) : Nat → (List eX) → Option (List eX)
 | 0, _ => none
 | d + 1, a => ((kD a a0 false (⟨0, (⟨zS, zS⟩ : fu), zS, (⟨zS, zS⟩ : fu), (⟨zS, zS⟩ : fu), zS⟩ : eX)).bind fun (g, h) => (if (!g) then some a else ((lV 136 a ([h])).bind fun c => (mW a0 d c))))
def qa (a0 : List eX) : Option (List eX) :=
 mW a0 iv ([])
def kc (a0 : List Key) : List ft → (List eX) → Option (List eX)
 | [], a => ((qa a).bind fun h => some h)
 | i :: c, a => ((oW a0 i).bind fun g => (if (g == 0) then ((lV 136 a ([i.eX])).bind fun d => (kc a0 c d)) else (kc a0 c a)))
def vw (a0 : List Key) (a : List ft) : Option (List eX) :=
 kc a0 a ([])
structure fm where
 b : List Int
 gh : Bool
def nD (a c : List Int) : Option (Bool × (List Int)) :=
 ((lV 1 a c).bind fun d => some (true, d))
def mF (a : List Int) (g : ft) : Option (Bool × (List Int)) :=
 ((jc g.eX).bind fun k => ((if (!k) then some true else some ((g.Tag.length : Int) != 8)).bind fun n => (if n then some (false, a) else ((jb g.eX).bind fun i => ((nD a i).bind fun c => (((if c.1 then ((ko c.2 g.Tag).bind fun d => some (d.1, d.2)) else some (false, c.2)) : Option (Bool × (List Int))).bind fun (j, h) => some (j, h)))))))
def kl (c : List Int) (a : Bool) : Option Bool :=
 some a
def fS (a0 : fm) (a : Int) : Option (Int ⊕ Unit) :=
 ((if (!a0.gh) then some (a != 0) else some false).bind fun x2 => (if x2 then some (Sum.inl a) else some (Sum.inr ())))
def kv (a0 : fm) (q : Int) : Option (Int ⊕ (Int × fm)) :=
 (((if (q == 9) then ((fS a0 11).bind fun n => match n with | .inl h => some (Sum.inl (Sum.inl h)) | .inr v => some (Sum.inr ())) else some (Sum.inr ())) : Option ((Int ⊕ (Int × fm)) ⊕ Unit)).bind fun s => match s with | .inl i => some i | .inr _ => (((if ((a0.b.length : Int) == 0) then ((fS a0 10).bind fun k => match k with | .inl d => some (Sum.inl (Sum.inl d)) | .inr u => some (Sum.inr ())) else some (Sum.inr ())) : Option ((Int ⊕ (Int × fm)) ⊕ Unit)).bind fun s => match s with | .inl g => some g | .inr _ => ((kk a0.b 0).bind fun p => ((kO (decide (0 ≤ 1) && decide (1 ≤ (a0.b.length : Int)))).bind fun _ => ((((if (p == 0) then some (decide (q > 0)) else some false).bind fun o => (if o then ((fS (⟨(a0.b.drop (Int.toNat 1)), a0.gh⟩ : fm) 11).bind fun j => match j with | .inl a => some (Sum.inl (Sum.inl a)) | .inr t => some (Sum.inr ())) else some (Sum.inr ()))) : Option ((Int ⊕ (Int × fm)) ⊕ Unit)).bind fun s => match s with | .inl c => some c | .inr _ => some (Sum.inr (p, (⟨(a0.b.drop (Int.toNat 1)), a0.gh⟩ : fm))))))))
def gy (p : Int) : Nat → Int → Int → (List Int) → Bool → Option (Int ⊕ (Int × fm))
 | 0, _, _, _, _ => none
 | n161 + 1, d, c, g, o => ((kv (⟨g, o⟩ : fm) c).bind fun n => match n with | .inl h => some (Sum.inl h) | .inr a => ((kO (decide (0 ≤ (wi0 .i64 (7 * c))))).bind fun _ => (if (decide (a.1 < 128)) then (((if (decide ((wi0 .i64 (BitVec.ofInt (IntKind.bits .i64) d ||| BitVec.ofInt (IntKind.bits .i64) (wi0 .i64 ((wi0 .i64 (IntKind.u8.wrap (BitVec.ofInt (IntKind.bits .u8) a.1 &&& BitVec.ofInt (IntKind.bits .u8) 127).toNat)) * 2 ^ min (Int.toNat (wi0 .i64 (7 * c))) (IntKind.bits .i64)))).toNat) > p)) then ((fS a.2 12).bind fun k => match k with | .inl i => some (Sum.inl (Sum.inl i)) | .inr q => some (Sum.inr ())) else some (Sum.inr ())) : Option ((Int ⊕ (Int × fm)) ⊕ Unit)).bind fun s => match s with | .inl j => some j | .inr _ => some (Sum.inr ((wi0 .i64 (BitVec.ofInt (IntKind.bits .i64) d ||| BitVec.ofInt (IntKind.bits .i64) (wi0 .i64 ((wi0 .i64 (IntKind.u8.wrap (BitVec.ofInt (IntKind.bits .u8) a.1 &&& BitVec.ofInt (IntKind.bits .u8) 127).toNat)) * 2 ^ min (Int.toNat (wi0 .i64 (7 * c))) (IntKind.bits .i64)))).toNat), a.2))) else (gy p n161 (wi0 .i64 (BitVec.ofInt (IntKind.bits .i64) d ||| BitVec.ofInt (IntKind.bits .i64) (wi0 .i64 ((wi0 .i64 (IntKind.u8.wrap (BitVec.ofInt (IntKind.bits .u8) a.1 &&& BitVec.ofInt (IntKind.bits .u8) 127).toNat)) * 2 ^ min (Int.toNat (wi0 .i64 (7 * c))) (IntKind.bits .i64)))).toNat) (wi0 .i64 (c + 1)) ((a.2).b) ((a.2).gh)))))
def iM (a0 : fm) (a : Int) : Option (Int ⊕ (Int × fm)) :=
 ((kl a0.b a0.gh).bind fun c => (if c then some (Sum.inr (0, a0)) else gy a iv 0 0 a0.b a0.gh))
def jf (a0 : fm) (p : Int) : Option (Int ⊕ ((List Int) × fm)) :=
 ((kl a0.b a0.gh).bind fun q => (if q then some (Sum.inr ([], a0)) else ((iM a0 9223372036854775807).bind fun j => match j with | .inl k => some (Sum.inl k) | .inr a => (((if (decide (a.1 > p)) then ((fS a.2 12).bind fun h => match h with | .inl c => some (Sum.inl (Sum.inl c)) | .inr t => some (Sum.inr ())) else (if (decide (a.1 > (((a.2).b).length : Int))) then ((fS a.2 10).bind fun i => match i with | .inl d => some (Sum.inl (Sum.inl d)) | .inr o => some (Sum.inr ())) else some (Sum.inr ()))) : Option ((Int ⊕ ((List Int) × fm)) ⊕ Unit)).bind fun s => match s with | .inl g => some g | .inr _ => ((kO (decide (0 ≤ a.1) && decide (a.1 ≤ (((a.2).b).length : Int)))).bind fun _ => ((gN (((a.2).b).take (Int.toNat a.1))).bind fun n => ((kO (decide (0 ≤ a.1) && decide (a.1 ≤ (((a.2).b).length : Int)))).bind fun _ => some (Sum.inr (n, (⟨(((a.2).b).drop (Int.toNat a.1)), (a.2).gh⟩ : fm))))))))))
def kM (a0 : fm) : Option (Int ⊕ (ByteArray × fm)) :=
 ((jf a0 16).bind fun i => match i with | .inl c => some (Sum.inl c) | .inr a => ((iL (jo a.1)).bind fun g => (if (!g) then ((fS a.2 30).bind fun h => match h with | .inl d => some (Sum.inl d) | .inr j => some (Sum.inr (zS, a.2))) else some (Sum.inr ((jo a.1), a.2)))))
def jW (a0 : fm) : Option (Int ⊕ (fu × fm)) :=
 ((kM a0).bind fun h => match h with | .inl c => some (Sum.inl c) | .inr i => ((kM i.2).bind fun g => match g with | .inl d => some (Sum.inl d) | .inr a => some (Sum.inr ((⟨i.1, a.1⟩ : fu), a.2))))
def nU (a0 : fm) : Option (Int ⊕ (eX × fm)) :=
 ((iM a0 9223372036854775807).bind fun R => match R with | .inl U => some (Sum.inl U) | .inr c => ((((if (decide (c.1 < 1)) then some true else some (decide (c.1 > 4))).bind fun T => (if T then ((fS c.2 11).bind fun Q => match Q with | .inl A => some (Sum.inl (Sum.inl A)) | .inr Z => some (Sum.inr ())) else some (Sum.inr ()))) : Option ((Int ⊕ (eX × fm)) ⊕ Unit)).bind fun s => match s with | .inl D => some D | .inr _ => ((jW c.2).bind fun P => match P with | .inl W => some (Sum.inl W) | .inr a => (((if (c.1 == 1) then ((kM a.2).bind fun I => match I with | .inl t => some (Sum.inl (Sum.inl t)) | .inr g => some (Sum.inr ((⟨c.1, a.1, g.1, (⟨zS, zS⟩ : fu), (⟨zS, zS⟩ : fu), zS⟩ : eX), ((g.2).b), ((g.2).gh)))) else (if (c.1 == 2) then ((jW a.2).bind fun J => match J with | .inl u => some (Sum.inl (Sum.inl u)) | .inr h => some (Sum.inr ((⟨c.1, a.1, zS, h.1, (⟨zS, zS⟩ : fu), zS⟩ : eX), ((h.2).b), ((h.2).gh)))) else (if (c.1 == 3) then ((jW a.2).bind fun L => match L with | .inl v => some (Sum.inl (Sum.inl v)) | .inr n => ((kM n.2).bind fun K => match K with | .inl w => some (Sum.inl (Sum.inl w)) | .inr i => some (Sum.inr ((⟨c.1, a.1, zS, n.1, (⟨zS, zS⟩ : fu), i.1⟩ : eX), ((i.2).b), ((i.2).gh))))) else (if (c.1 == 4) then ((jW a.2).bind fun O => match O with | .inl x => some (Sum.inl (Sum.inl x)) | .inr o => ((jW o.2).bind fun M => match M with | .inl y => some (Sum.inl (Sum.inl y)) | .inr j => some (Sum.inr ((⟨c.1, a.1, zS, o.1, j.1, zS⟩ : eX), ((j.2).b), ((j.2).gh))))) else some (Sum.inr ((⟨c.1, a.1, zS, (⟨zS, zS⟩ : fu), (⟨zS, zS⟩ : fu), zS⟩ : eX), ((a.2).b), ((a.2).gh))))))) : Option ((Int ⊕ (eX × fm)) ⊕ (eX × (List Int) × Bool))).bind fun s => match s with | .inl z => some z | .inr (p, d, k) => ((jc p).bind fun F => (if (!F) then ((fS (⟨d, k⟩ : fm) 11).bind fun G => match G with | .inl q => some (Sum.inl q) | .inr Y => some (Sum.inr ((⟨0, (⟨zS, zS⟩ : fu), zS, (⟨zS, zS⟩ : fu), (⟨zS, zS⟩ : fu), zS⟩ : eX), (⟨d, k⟩ : fm)))) else some (Sum.inr (p, (⟨d, k⟩ : fm)))))))))
def lL (a0 : fm) : Option (Int ⊕ (ft × fm)) :=
 ((nU a0).bind fun j => match j with | .inl c => some (Sum.inl c) | .inr k => ((jf k.2 8).bind fun i => match i with | .inl d => some (Sum.inl d) | .inr a => (if ((a.1.length : Int) != 8) then ((fS a.2 11).bind fun h => match h with | .inl g => some (Sum.inl g) | .inr n => some (Sum.inr ((⟨(⟨0, (⟨zS, zS⟩ : fu), zS, (⟨zS, zS⟩ : fu), (⟨zS, zS⟩ : fu), zS⟩ : eX), []⟩ : ft), a.2))) else some (Sum.inr ((⟨k.1, a.1⟩ : ft), a.2)))))
def oQ (a0 : fm) (g : ft) : Option (Int ⊕ (fm × ft)) :=
 ((lL a0).bind fun c => match c with | .inl a => some (Sum.inl a) | .inr d => some (Sum.inr (d.2, d.1)))
def kT (a0 : List Int) (a : ft) : Option (Int × ft) :=
 ((gN a0).bind fun l => ((oQ (⟨l, false⟩ : fm) a).bind fun s => some ((rU (fun r => (r.1).b) s), (match s with | .inl _ => a | .inr r => r.2))))
def ib (a0 : List (ByteArray × (List Int))) : Option Unit :=
 some ()
def kd (a0 : Option gf) : Option (List ByteArray) :=
 (if a0.isNone then some [] else (a0.bind fun x4 => ((ib x4.m).bind fun c => ((oF x4.m).bind fun a => some a))))
def kZ  : Option Bool :=
 ((nQ ([(⟨(⟨#[97]⟩ : ByteArray), [107]⟩ : Key), (⟨(⟨#[98]⟩ : ByteArray), [108]⟩ : Key)])).bind fun c => ((nQ ([(⟨(⟨#[97]⟩ : ByteArray), []⟩ : Key)])).bind fun A => ((kw c.1 (⟨1, (⟨(⟨#[97]⟩ : ByteArray), (⟨#[114]⟩ : ByteArray)⟩ : fu), (⟨#[100]⟩ : ByteArray), (⟨zS, zS⟩ : fu), (⟨zS, zS⟩ : fu), zS⟩ : eX)).bind fun a => ((nQ ([(⟨(⟨#[97]⟩ : ByteArray), [109]⟩ : Key)])).bind fun D => ((mF ([]) (⟨(a.1).eX, (a.1).Tag⟩ : ft)).bind fun d => ((iy d.2).bind fun h => ((kT h (⟨(⟨0, (⟨zS, zS⟩ : fu), zS, (⟨zS, zS⟩ : fu), (⟨zS, zS⟩ : fu), zS⟩ : eX), []⟩ : ft)).bind fun g => ((if (c.2 == 0) then some (A.2 == 21) else some false).bind fun p => ((if p then some (a.2 == 0) else some false).bind fun q => ((if q then some ((((a.1).Tag).length : Int) == 8) else some false).bind fun s => ((if s then ((gF c.1 (⟨(a.1).eX, (a.1).Tag⟩ : ft)).bind fun o => some (o == 0)) else some false).bind fun t => ((if t then ((gF D.1 (⟨(a.1).eX, (a.1).Tag⟩ : ft)).bind fun n => some (n == 20)) else some false).bind fun u => ((if u then ((kd c.1).bind fun k => some ((k.length : Int) == 2)) else some false).bind fun v => ((if v then ((mc c.1 ([(⟨(a.1).eX, (a.1).Tag⟩ : ft), (⟨(⟨1, (⟨(⟨#[97]⟩ : ByteArray), (⟨#[114]⟩ : ByteArray)⟩ : fu), (⟨#[100]⟩ : ByteArray), (⟨zS, zS⟩ : fu), (⟨zS, zS⟩ : fu), zS⟩ : eX), []⟩ : ft)])).bind fun j => some ((j.length : Int) == 1)) else some false).bind fun w => ((if w then some d.1 else some false).bind fun x => ((if x then some (g.1 == 0) else some false).bind fun y => ((if y then ((mQ g.2 (⟨(a.1).eX, (a.1).Tag⟩ : ft)).bind fun i => some i) else some false).bind fun z => some z)))))))))))))))))
def nK (a0 : fm) (g : ft) : Option (Int ⊕ (fm × ft)) :=
 ((lL a0).bind fun c => match c with | .inl a => some (Sum.inl a) | .inr d => some (Sum.inr (d.2, d.1)))
def mg (a0 : List Int) (a : ft) : Option (Int × ft) :=
 ((gN a0).bind fun l => ((nK (⟨l, false⟩ : fm) a).bind fun s => some ((rU (fun r => (r.1).b) s), (match s with | .inl _ => a | .inr r => r.2))))
structure fg where
 S : ByteArray
 E : Int
def fx (x : fg) : List Value := [.string x.S, .int .i64 x.E]
def ml (a0 : ft) : Option Bool :=
 ((iP a0.eX).bind fun a => ((if a then some ((a0.Tag.length : Int) == 8) else some false).bind fun c => some c))
def nt (a0 : ft) : Option ByteArray :=
 ((((kf a0.eX).bind fun c => some (c, (jo a0.Tag))) : Option (ByteArray × ByteArray)).bind fun (g, h) => ((iO h).bind fun a => ((mw g a).bind fun d => some d)))
def mV (a : ft) : Option Bool :=
 some false
def nP (a0 : fm) (g : ft) : Option (Int ⊕ (fm × ft)) :=
 ((lL a0).bind fun c => match c with | .inl a => some (Sum.inl a) | .inr d => some (Sum.inr (d.2, d.1)))
def kp (a0 : List Int) (a : ft) : Option (Int × ft) :=
 ((gN a0).bind fun l => ((nP (⟨l, false⟩ : fm) a).bind fun s => some ((rU (fun r => (r.1).b) s), (match s with | .inl _ => a | .inr r => r.2))))
def gD (k : Int) : Nat → Int → Int → Int → fg → Option (Int × fg)
 | 0, _, _, _, _ => none
 | n173 + 1, h, d, i, a => (if (i == 9) then some (0, (⟨a.S, 11⟩ : fg)) else (if (fU a.S zS) then some (0, (⟨a.S, 10⟩ : fg)) else ((nH a.S 0).bind fun c => ((qT a.S 1 (a.S.size : Int)).bind fun g => ((if ((wi0 .i64 (c.toNat : Int)) == 0) then some (decide (i > 0)) else some false).bind fun j => (if j then some (0, (⟨g, 11⟩ : fg)) else (if (decide ((wi0 .i64 (c.toNat : Int)) < 128)) then (if (decide ((wi0 .i64 (h + (wi0 .i64 ((Int.tmod (wi0 .i64 (c.toNat : Int)) 128) * d)))) > k)) then some (0, (⟨g, 12⟩ : fg)) else some ((wi0 .i64 (h + (wi0 .i64 ((Int.tmod (wi0 .i64 (c.toNat : Int)) 128) * d)))), (⟨g, a.E⟩ : fg))) else (gD k n173 (wi0 .i64 (h + (wi0 .i64 ((Int.tmod (wi0 .i64 (c.toNat : Int)) 128) * d)))) (wi0 .i64 (d * 128)) (wi0 .i64 (i + 1)) (⟨g, a.E⟩ : fg)))))))))
def gn (a0 : fg) (a : Int) : Option (Int × fg) :=
 (if (a0.E != 0) then some (0, a0) else gD a iv 0 1 0 a0)
def gu (a0 : fg) (g : Int) : Option (ByteArray × fg) :=
 ((gn a0 9223372036854775807).bind fun a => (if (a.2.E != 0) then some (zS, a.2) else (if (decide (a.1 > g)) then some (zS, (⟨a.2.S, 12⟩ : fg)) else (if (decide (a.1 > (a.2.S.size : Int))) then some (zS, (⟨a.2.S, 10⟩ : fg)) else ((qT a.2.S 0 a.1).bind fun c => ((qT a.2.S a.1 (a.2.S.size : Int)).bind fun d => some (c, (⟨d, a.2.E⟩ : fg))))))))
def gB (a0 : fg) : Option (ByteArray × fg) :=
 ((gu a0 16).bind fun c => ((((if (c.2.E == 0) then ((jn c.1).bind fun d => some (!d)) else some false).bind fun g => (if g then some (⟨c.2.S, 30⟩ : fg) else some c.2)) : Option fg).bind fun a => (if (a.E != 0) then some (zS, a) else some (c.1, a))))
def gv (a0 : fg) : Option (fu × fg) :=
 ((gB a0).bind fun c => ((gB c.2).bind fun a => (if (a.2.E != 0) then some ((⟨zS, zS⟩ : fu), a.2) else some ((⟨c.1, a.1⟩ : fu), a.2))))
def mh (a0 : fg) : Option (eX × fg) :=
 ((gn a0 9223372036854775807).bind fun c => ((((if (c.2.E == 0) then ((if (decide (c.1 < 1)) then some true else some (decide (c.1 > 4))).bind fun v => some v) else some false).bind fun u => (if u then some (⟨c.2.S, 11⟩ : fg) else some c.2)) : Option fg).bind fun w => ((gv w).bind fun d => (((if (c.1 == 1) then ((gB d.2).bind fun j => some ((⟨c.1, d.1, j.1, (⟨zS, zS⟩ : fu), (⟨zS, zS⟩ : fu), zS⟩ : eX), j.2)) else ((if (c.1 == 2) then some (c.1 == 2) else (if (c.1 == 3) then some (c.1 == 3) else some (c.1 == 4))).bind fun t => (if t then ((gv d.2).bind fun g => (((if (c.1 == 3) then ((gB g.2).bind fun n => some ((⟨c.1, d.1, zS, g.1, (⟨zS, zS⟩ : fu), n.1⟩ : eX), n.2)) else some ((⟨c.1, d.1, zS, g.1, (⟨zS, zS⟩ : fu), zS⟩ : eX), g.2)) : Option (eX × fg)).bind fun (a, p) => (if (a.Kind == 4) then ((gv p).bind fun k => some ((⟨a.Kind, a.Head, a.fD, a.B, k.1, a.fw⟩ : eX), k.2)) else some (a, p)))) else some ((⟨c.1, d.1, zS, (⟨zS, zS⟩ : fu), (⟨zS, zS⟩ : fu), zS⟩ : eX), d.2)))) : Option (eX × fg)).bind fun (o, h) => ((((if (h.E == 0) then ((iP o).bind fun q => some (!q)) else some false).bind fun s => (if s then some (⟨h.S, 11⟩ : fg) else some h)) : Option fg).bind fun i => (if (i.E != 0) then some ((⟨0, (⟨zS, zS⟩ : fu), zS, (⟨zS, zS⟩ : fu), (⟨zS, zS⟩ : fu), zS⟩ : eX), i) else some (o, i)))))))
def mm (a0 : fg) : Option (ft × fg) :=
 ((mh a0).bind fun h => ((gu h.2 8).bind fun a => ((((if (a.2.E == 0) then some ((a.1.size : Int) != 8) else some false).bind fun g => (if g then some (⟨a.2.S, 11⟩ : fg) else some a.2)) : Option fg).bind fun c => (if (c.E != 0) then some ((⟨(⟨0, (⟨zS, zS⟩ : fu), zS, (⟨zS, zS⟩ : fu), (⟨zS, zS⟩ : fu), zS⟩ : eX), []⟩ : ft), c) else ((nZ a.1).bind fun d => some ((⟨h.1, d⟩ : ft), c))))))
def kG (a0 : fg) : Option Int :=
 ((if (a0.E == 0) then some (!(fU a0.S zS)) else some false).bind fun x8 => (if x8 then some 13 else some a0.E))
def mz (a0 : ft) (t : List Int) : Option Bool :=
 (kZ.bind fun x => (if (!x) then some false else ((pc ([]) ([a0])).bind fun u => ((if (decide (u > 600)) then some true else some (decide ((t.length : Int) > 400))).bind fun v => (if v then some true else ((((ml a0).bind fun n => (if n then ((nt a0).bind fun o => some o) else some zS)) : Option ByteArray).bind fun w => ((mF ([]) a0).bind fun a => ((ml a0).bind fun g => ((if (a.1 != g) then some true else ((iy a.2).bind fun k => some (!(fU (jo k) w)))).bind fun p => ((if p then some true else ((mV a0).bind fun j => some j)).bind fun q => (if q then some false else ((kp t (⟨(⟨0, (⟨zS, zS⟩ : fu), zS, (⟨zS, zS⟩ : fu), (⟨zS, zS⟩ : fu), zS⟩ : eX), []⟩ : ft)).bind fun c => ((mm (⟨(jo t), 0⟩ : fg)).bind fun d => ((mQ c.2 d.1).bind fun h => ((if h then ((kG d.2).bind fun i => some (c.1 == i)) else some false).bind fun s => some s)))))))))))))))
end
end Go.Proofs.YtcafmokjkjcomaaGreat
