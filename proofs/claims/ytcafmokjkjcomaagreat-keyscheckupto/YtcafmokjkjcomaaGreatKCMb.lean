/- a part of a proof of KeysCheck -/
import Derived.Test.YtcafmokjkjcomaaGreatRtZcb
import Derived.Shelf.SlSortCmp.NoneTotal
import Derived.Shelf.SortM.Plain
import Derived.Shelf.SortM.SortNone
import Derived.Shelf.SlIter.Sorted
import Derived.Shelf.SlIter.Nil
import Derived.Test.YtcafmokjkjcomaaGreatProg
import Derived.KernelRfl
set_option linter.all false
namespace Go.Proofs.YtcafmokjkjcomaaGreat
open Go.IntKind renaming wrap → wi0
open Go.RowKit
def zU (n : Nat) (Q : List Deferred → gQ) (e : Exit) (a : Act) (w : World) : Prop := ∃ D, yc D n (Q D) e a w
def xq (P : Program) (n : Nat) (c : Code) (Q : List Deferred → gQ) (E : Nat → Value) (W : World) : Prop := ∀ a, Ag n a E → c.wp P (zU n Q) a W
def Ac (P : Program) (n : Nat) (ops : Array Oper) (Q : List Deferred → gQ) (l : List Oper) (E : Nat → Value) (W : World) : Prop := ∀ a, Ag n a E → wpList P ops (zU n Q) l a W
def BS (P : Program) (fn : Func) (R : Ending → World → Prop) (D : List Deferred) : gQ
 | .normal, E, W | .ret, E, W => ∀ tmps : Array Value, (∀ t, tmps.getD t undef = E t) → Leaves P fn tmps R D .returning W
 | .panic c, E, W => ∀ tmps : Array Value, (∀ t, tmps.getD t undef = E t) → Leaves P fn tmps R D (.panicking c) W
 | _, _, _ => False
section
variable {P : Program} {n : Nat} {Q : List Deferred → gQ} {E : Nat → Value} {W : World} {c x y : Code} {ops : Array Oper} {rest : List Oper} {o : Oper}
theorem xp (h : CW P n x (fun e E W => e = .normal ∧ xq P n y Q E W) E W) : xq P n (.seq x y) Q E W := fun a i =>
 wp_seq (dy (h a i) (fun e g k h => by
  cases e with
  | normal => obtain ⟨E', d, _, j⟩ := h; exact j g d
  | panic c => exact absurd h.2.1 (by simp)
  | outgrown => exact h.elim
  | _ => obtain ⟨E', d, h1, _⟩ := h; cases h1))
theorem BC (h : xq P n x (fun D => iK (fun E W => rk D P n y (Q D) E W) (Q D)) E W) : xq P n (.seq x y) Q E W := fun a g =>
 wp_seq (dy (h a g) (fun e d j ⟨D, h⟩ => by
  cases e with
  | normal => obtain ⟨E', c, i⟩ := h; exact dy (i d c) (fun e a w h => ⟨D, h⟩)
  | _ => exact ⟨D, h⟩))
theorem ye {id : Nat} {l : List Oper} (h : Ac P n l.toArray Q l E W) : xq P n (.region id l.toArray false) Q E W := fun a c => wp_region_lit (h a c)
theorem B1 {dd : Nat} {v : Value} (hw : gT n ops E o) (g : o.dst = some dd) (i : dd < n) (d : fU P E o W v W) (h : Ac P n ops Q rest (gz E dd v) W) : Ac P n ops Q (o :: rest) E W := fun a c => by
 unfold wpList
 rw [aF (hw.of c)]
 refine .inl ?_
 unfold Oper.wp
 unfold fU at d
 rw [c.eval, d, ck, g]
 exact h _ (c.put i v)
theorem yv {d : Deferred} (hw : gT n ops E o) (g : o.dst = none) (i : (execOp (fe E) o).run P W = .ok (.defer d) W) (h : Q [d] .normal E W) : Ac P n ops Q [o] E W := fun a c => by
 unfold wpList
 rw [aF (hw.of c)]
 refine .inl ?_
 unfold Oper.wp
 rw [c.eval, i, Oper.upon_defer, g]
 exact wpList_nil ⟨[d], E, ⟨c.1, by simp [Act.put, c.2.1], c.2.2⟩, h⟩
theorem vW {f : FuncId} {fn : Func} {c : Code} {args : List Value} {w : World} {R : Ending → World → Prop} (k : P.funcs[f]? = some fn) (j : fn.body = some c) (o : fn.ntmps = n) (i : args.length ≤ n) (h : xq P n c (fun D => BS P fn R D) (mH args) w) : Calls P f args.toArray w R := by
 refine calls_of_wp_defers k j (dy (h _ (wj o i)) (fun e a p ⟨D, g⟩ => ?_))
 cases e with
 | normal => obtain ⟨E, d, h⟩ := g; show Leaves _ _ _ _ a.defers _ _; rw [d.2.1]; exact h _ d.2.2
 | ret => obtain ⟨E, d, h⟩ := g; show Leaves _ _ _ _ a.defers _ _; rw [d.2.1]; exact h _ d.2.2
 | exit id => obtain ⟨E, d, h⟩ := g; exact h.elim
 | goto l => obtain ⟨E, d, h⟩ := g; exact h.elim
 | panic c => show Leaves _ _ _ _ a.defers _ _; rw [g.1]; exact g.2.2 _ (fun _ => rfl)
 | outgrown => exact g.elim
theorem yW {d : Option Nat} {ty : TypeId} {pos : String} {af : Array Edge} {g : Option (Nat × Bool)} {f : FuncId} {fv : Operand} {ax : Array Operand} {ats : Array TypeId} {caps : Array Value} {args : List Value} (h : fe E fv = .func (.func f) #[] caps) (c : ax.map (fe E) ++ (#[] : Array Value) = args.toArray) : (execOp (fe E) ⟨d, .defer ⟨.value fv, ax, ats⟩, ty, pos, af, g⟩).run P W = .ok (.defer ⟨.fn (.func f) caps, args.toArray⟩) W := by
 show (do pure (.defer (← resolve (fe E) ⟨.value fv, ax, ats⟩ ty)) : Sem Next).run P W = _
 have a : ax.map (fe E) = args.toArray := by simpa using c
 simp [resolve, Deferred.ofValue, h, a]
theorem vH {fn : Func} {R : Ending → World → Prop} {k : FuncId} {ax : Array Value} {u : FrameMode} {X : World → Prop} (hu : u ≠ .run) (he : ∀ args w, (callFunc k args).run P w = .ok (.enter k args) w) (c : CallsD P k ax u W fun e a W' => e = .returned (.tuple #[]) ∧ settle a = .returning ∧ X W') (h : ∀ W', X W' → mG P fn R .ret E W') (tmps : Array Value) (i : ∀ t, tmps.getD t undef = E t) : Leaves P fn tmps R [⟨.fn (.func k) #[], ax⟩] u W :=
 leaves_cons hu (by simp [invoke, he]) (CallsD.mono c (by
  rintro e a W' ⟨rfl, g, n⟩
  obtain ⟨v, j, d⟩ := h W' n
  show Leaves _ _ _ _ [] (settle a) _
  rw [g]
  exact ⟨v, j _ i, d⟩))
end
theorem jU.form {κ γ : Type} {kenc : κ → Value} {Q : Value → γ → List (Nat × Obj) → Prop} {μ : fz} {v : Value} {l : List (κ × γ)} (h : jU kenc Q μ v l) : ∃ m, v = .map m := by
 obtain ⟨a, R, h, _⟩ := h
 obtain ⟨m, rfl⟩ := h.form
 exact ⟨_, rfl⟩
theorem jU.Cs {κ γ : Type} {kenc : κ → Value} {Q : Value → γ → List (Nat × Obj) → Prop} {μ : fz} {v : Value} {l : List (κ × γ)} (h : jU kenc Q μ v l) : ∃ a : List (κ × (Value × γ)), a.map (fun p => (p.1, p.2.2)) = l ∧ mJ kenc (fun x => x.1) μ v a := by
 obtain ⟨q, R, ⟨k, n, rfl, ⟨m, es, clock, rfl, rfl, c⟩, j⟩, i⟩ := h
 obtain ⟨a, d, g, o⟩ := j.zip
 refine ⟨a, g, .inr ⟨m, es, clock, rfl, i _ _ (by simp), ⟨?_, c.born, c.lt⟩⟩⟩
 rw [c.qc, ← d]; simp
theorem yG {β γ : Type} {a : List (ByteArray × β)} {l : List (ByteArray × γ)} {f : β → γ} (h : a.map (fun p => (p.1, f p.2)) = l) : oF a = oF l := by
 subst h
 unfold oF
 have e : (a.map (fun p => (p.1, f p.2))).map (·.1) = a.map (·.1) := by rw [cg]; rfl
 simp only [e, cK]
 have : (∀ p ∈ a.map (fun p => (p.1, f p.2)), p.1.size ≤ maxLen) ↔ (∀ p ∈ a, p.1.size ≤ maxLen) := ⟨fun h p hp => h _ (aS.2 ⟨p, hp, rfl⟩), fun h q c => by obtain ⟨p, hp, rfl⟩ := aS.1 c; exact h p hp⟩
 simp only [this]
def Ai (dd : Bool) (w : World) (μ0 : fz) (L0 : List (Nat × Obj)) (K : Value → List (Nat × Obj) → fz → Prop) : Ending → World → Prop := fun e a => ∃ v L1 μ1, e = .returned v ∧ jn dd L0 L1 w a ∧ fw μ0 μ1 ∧ Lo (keys L0) w μ0 μ1 ∧ fw μ1 (jB a L1) ∧ K v L1 μ1
theorem yl {dd : Bool} {P : Program} {f : FuncId} {args : List Value} {w : World} {μ0 : fz} {L0 : List (Nat × Obj)} {K : Value → List (Nat × Obj) → fz → Prop} (h : Calls P f args.toArray w (Ai dd w μ0 L0 K)) : gY dd P f args w μ0 L0 K := h
theorem gY.mono {dd : Bool} {P : Program} {f : FuncId} {args : List Value} {w : World} {μ0 : fz} {L0 : List (Nat × Obj)} {K K' : Value → List (Nat × Obj) → fz → Prop} (h : gY dd P f args w μ0 L0 K) (hk : ∀ v L1 μ1, fw μ0 μ1 → K v L1 μ1 → K' v L1 μ1) : gY dd P f args w μ0 L0 K' :=
 bo h fun _ _ ⟨v, L1, μ1, h1, c, a, d, g, i⟩ => ⟨v, L1, μ1, h1, c, a, d, g, hk _ _ _ a i⟩
theorem fG.mono {R : Type} {dd : Bool} {P : Program} {f : FuncId} {args : List Value} {w : World} {μ0 : fz} {L0 : List (Nat × Obj)} {s : Int ⊕ R} {K K' : R → Value → List (Nat × Obj) → fz → Prop} {X X' : Int → List PanicEntry → List (Nat × Obj) → fz → Prop} (h : fG dd P f args w μ0 L0 s K X) (hk : ∀ r v L1 μ1, K r v L1 μ1 → K' r v L1 μ1) (k : ∀ x c L1 μ1, X x c L1 μ1 → X' x c L1 μ1) : fG dd P f args w μ0 L0 s K' X' :=
 bo h fun e n h => by
  cases s with
  | inl x => obtain ⟨v, L1, μ1, h1, a, d, g, i, j⟩ := h; exact ⟨v, L1, μ1, h1, a, d, g, i, k _ _ _ _ j⟩
  | inr r => obtain ⟨v, L1, μ1, h1, a, d, g, i, j⟩ := h; exact ⟨v, L1, μ1, h1, a, d, g, i, hk _ _ _ _ j⟩
def zV {S : Type} (K : S → List (Nat × Obj) → fz → Prop) (X : Int → List (Nat × Obj) → fz → Prop) : Int ⊕ S → List (Nat × Obj) → fz → Prop
 | .inl x => X x
 | .inr r => K r
end Go.Proofs.YtcafmokjkjcomaaGreat
namespace Go.Proofs.YtcafmokjkjcomaaGreat
open Go.IntKind renaming wrap → wi0
open Go.Sort Go.Proofs Go.Shelf
theorem sV {g b : Nat} {o : Obj} : keys [(g, o)] b ↔ b = g := by
 constructor
 ·rintro ⟨a, h⟩
  simp at h
  exact h.1
 ·rintro rfl; exact ⟨o, by simp⟩
theorem qo (w : World) (g m : Nat) (f : Array Value → Array Value) (os : Array Obj) (b : Nat) (c : b < w.heap.size) :
  (Go.Sort.grow (mapBlock (Go.Sort.ahead w m) g f) os).heap[b]? = if g = b then w.heap[b]?.map (onCells f) else w.heap[b]? := by
 have a : b < (mapBlock (Go.Sort.ahead w m) g f).heap.size := by simp only [mapBlock, Go.Sort.ahead, Array.size_modify]; exact c
 rw [heap_grow_old _ _ a]
 simp only [mapBlock, Go.Sort.ahead, ct]
theorem wz {w : World} {g m : Nat} {f : Array Value → Array Value} {os : Array Obj} {cs : Array Value} {T : TypeId} {fr : Nat × Nat} (c : w.heap[g]? = some (.cells cs T fr)) :
  jn true [(g, .cells cs T fr)] [(g, .cells (f cs) T fr)] w (Go.Sort.grow (mapBlock (Go.Sort.ahead w m) g f) os) := by
 have a : g < w.heap.size := (bQ.1 c).1
 refine ⟨⟨rfl, rfl, rfl, ?_, ?_, fun b d i => ?_⟩, fun b o h => ?_, by simp⟩
 ·refine kW.of ?_
  show w.drawn ≤ w.drawn + m
  omega
 ·show w.heap.size ≤ (w.heap.modify g (onCells f) ++ os).size
  simp
 ·rw [qo _ _ _ _ _ _ d, aG fun h => i (sV.2 h.symm)]
 ·simp only [aC, bk, cI, Prod.mk.injEq] at h
  obtain ⟨rfl, rfl⟩ := h
  refine ⟨?_, .inr (sV.2 rfl)⟩
  rw [qo _ _ _ _ _ _ a, aF rfl, c]
  rfl
theorem xB {w W : World} (h : Ex true w W) : ∃ q os, W = Go.Sort.grow (w.drewN q) os := by
 refine ⟨W.drawn - w.drawn, W.heap.extract w.heap.size W.heap.size, ?_⟩
 have g : W.heap = w.heap ++ W.heap.extract w.heap.size W.heap.size := by
  apply Array.ext_getElem?
  intro i
  rw [db]
  split
  ·rename_i j; exact h.jZ i j
  ·rename_i j
   rw [Array.getElem?_extract]
   have n := h.size
   split
   ·rw [show w.heap.size + (i - w.heap.size) = i by omega]
   ·exact Array.getElem?_eq_none (by omega)
 obtain ⟨h1, o, p, s, t⟩ := W
 have a := h.os; have c := h.tape; have d := h.output; have k := h.drawn rfl
 simp only at a c d k g
 unfold Go.Sort.grow World.drewN
 simp only [World.mk.injEq]
 exact ⟨g, c, by omega, a, d⟩
theorem xh {α : Type} [Inhabited α] {enc : α → List Value} {k : Nat} (hk : ∀ x, (enc x).length = k) (l : List α) (j : Nat) (a : j < l.length * k) :
  (l.map enc).flatten[j]? = some ((flatK enc k l.toArray)[j]!) := by
 have g : 0 < k := by
  cases k with
  | zero => simp at a
  | succ n => omega
 have h1 : j / k < l.length := (dI g).2 a
 rw [get_flatK _ _ _ _ (by simpa using a)]
 have h : l.toArray[j / k]! = l[j / k] := by
  rw [getElem!_pos l.toArray (j / k) (by simpa using h1)]; simp
 rw [h]
 have c : j % k < (enc l[j / k]).length := by rw [hk]; exact Nat.mod_lt _ g
 have d := nG hk l (j / k) l[j / k] (bI h1) (j % k) ((enc l[j / k])[j % k]) (bI c)
 rw [Nat.div_add_mod' j k] at d
 rw [d, getElem!_pos (enc l[j / k]) (j % k) c]
theorem uS {α : Type} [Inhabited α] {enc : α → List Value} {k : Nat} (hk : ∀ x, (enc x).length = k) {w : World} {g : Nat} {cs : Array Value} {T : TypeId} (c : w.heap[g]? = some (.cells cs T (0, 0))) (l : List α)
  (h : cs.toList.take (l.length * k) = (l.map enc).flatten) : HoldsK enc k w g 0 l.toArray := by
 intro j d
 have a : j < l.length * k := by simpa using d
 have h1 := xh hk l j a
 rw [← h, cH, aF a] at h1
 refine ⟨?_, ?_⟩
 ·simp only [World.cell?, c, eH]
  simpa using h1
 ·simp [World.frozen?, c]
theorem wO {α : Type} [Inhabited α] {enc : α → List Value} {k : Nat} (hk : ∀ x, (enc x).length = k) {cs : Array Value} (l : List α) (c : l.length * k ≤ cs.size) :
  (putCells id 0 (flatK enc k l.toArray) cs).toList.take (l.length * k) = (l.map enc).flatten := by
 apply cM
 intro j
 rw [cH]
 split
 ·rename_i a
  rw [xh hk l j a]
  simp only [putCells, bM, Array.getElem?_mapIdx, size_flatK, bU]
  rw [Array.getElem?_eq_getElem (by omega)]
  simp [a]
 ·rename_i a
  rw [cu (by rw [lH hk]; omega)]
theorem uW (enc : Value → Value) (o : Nat) (d c : Array Value) : (putCells enc o d c).size = c.size := by simp [putCells]
section
variable {α : Type} {P : Program} {ρ : Ren}
theorem Bk {l : List α} {cf : α × α → Option Int} (h : rO cf l) : SWO (ltOf fun (x y : {x // x ∈ l}) => (cf (x.1, y.1)).getD 0) ∧
  (∀ x y : {x // x ∈ l}, ltOf (fun (x y : {x // x ∈ l}) => (cf (x.1, y.1)).getD 0) x y = ly cf x.1 y.1) := by
 have e : ∀ x y : {x // x ∈ l}, ltOf (fun (x y : {x // x ∈ l}) => (cf (x.1, y.1)).getD 0) x y = ly cf x.1 y.1 := fun x y => by
  obtain ⟨c, i⟩ := h.is x.1 x.2 y.1 y.2
  simp [ltOf, ly, i]
 refine ⟨⟨fun x => ?_, fun x y z => ?_, fun x y z => ?_⟩, e⟩
 ·rw [e]; exact h.irrefl _ x.2
 ·rw [e, e, e]; exact h.trans _ x.2 _ y.2 _ z.2
 ·rw [e, e, e]
  intro h1 d
  cases a : ly cf x.1 z.1 with
  | false => rfl
  | true =>
   cases g : ly cf y.1 x.1 with
   | true =>
    have := h.trans _ y.2 _ x.2 _ z.2 g a
    rw [d] at this; cases this
   | false =>
    have := h.total _ x.2 _ y.2 h1 g
    rw [this, d] at a; cases a
theorem wP (L : SlLaysF0.n6 P ρ) (k : Nat) (aE : ∀ w, (isAgg (ρ.t 24)).run P w = .ok true w) (zE : ∀ w, (Go.sizeOf (ρ.t 24)).run P w = .ok k w) {e : TypeId} (enc : α → List Value) (hk : ∀ x, (enc x).length = k) (h1 : ∀ x, ∀ u ∈ enc x, u.oneCell' = true) {v fv : Value} {l r : List α} {R : List (Nat × Obj)} {cf : α × α → Option Int} {w : World} {μ0 : fz} (hH : qR (R ++ []) w) (A : fw μ0 (jB w (R ++ []))) (T : fL e enc k v l R) (hc : vv P fv μ0 (fun (x : α × α) => [(.agg (enc x.1).toArray), (.agg (enc x.2).toArray)]) (fun (r : Int) => (.int .i64 r)) cf) (hm : pR cf l = some r) :
  gN true P (ρ.f 6) [v, fv] w (R ++ []) (fun u L1 _ => ∃ (S : List (Nat × Obj)), u = (.tuple #[]) ∧ L1 = (S ++ []) ∧ fL e enc k v r S) := by
 obtain ⟨ok, rfl⟩ := xP hm
 rw [cq] at hH A ⊢
 rcases cE l.length with h0 | i
 ·have hl : l = [] := cz h0
  subst hl
  have U : lq cf ([] : List α) = [] := by simp [lq]
  rw [U]
  obtain ⟨p, c, rfl⟩ : ∃ p c, v = .slice p 0 c := by
   rcases T with ⟨rfl, _, _⟩ | ⟨g, cap, j, rfl, _⟩
   ·exact ⟨_, _, rfl⟩
   ·exact ⟨_, _, rfl⟩
  refine bo (AnyF.slices_SortFunc_none L p c fv w) fun x w' ⟨hx, hw⟩ => ?_
  subst hx hw
  refine ⟨_, R, rfl, ⟨⟨rfl, rfl, rfl, kW.of (aO _), aO _, fun _ _ _ => rfl⟩, fun b o h => ⟨hH b o h, .inr ⟨o, h⟩⟩, ?_⟩, R, rfl, (cq R).symm, T⟩
  rcases T with ⟨_, _, rfl⟩ | ⟨g, cap, j, _, rfl, _⟩ <;> simp
 ·rcases T with ⟨_, rfl, _⟩ | ⟨g, cap, j, rfl, rfl, a1, Z, I, aa⟩
  ·simp at i
  have hg : w.heap[g]? = some (.cells j e (0, 0)) := hH g _ (by simp)
  have a6 : g < w.heap.size := (bQ.1 hg).1
  haveI : Inhabited {x // x ∈ l} := ⟨⟨l[0], List.getElem_mem i⟩⟩
  obtain ⟨gg, caps, rfl, J, q⟩ := hc
  obtain ⟨hO, K⟩ := Bk ok
  have D : l.attach.toArray.size = l.length := by simp
  have a7 : l.attach.map (fun x => enc x.1) = l.map enc := by
   rw [show (fun x : {x // x ∈ l} => enc x.1) = enc ∘ Subtype.val from rfl, ← cg, List.attach_map_subtype_val]
  have W : HoldsK (fun x : {x // x ∈ l} => enc x.1) k w g 0 l.attach.toArray := uS (fun x => hk x.1) hg l.attach (by rw [a7, List.length_attach, aa])
  have G : CmpLays P gg caps (fun x : {x // x ∈ l} => enc x.1) k (fun x y => (cf (x.1, y.1)).getD 0) g 0 l.attach.toArray.size w := by
   intro m os dk ad x y
   obtain ⟨c, F⟩ := ok.is x.1 x.2 y.1 y.2
   have Q : fw μ0 (hp (sortWorldK (fun x : {x // x ∈ l} => enc x.1) k w g 0 m dk os)) := fun b o hb => by
    have z := A b o hb
    unfold jB at z
    split at z
    ·cases z
    ·rename_i hn
     have Y : b < w.heap.size := (bQ.1 z).1
     show (Go.Sort.grow (mapBlock (Go.Sort.ahead w m) g _) os).heap[b]? = _
     rw [qo _ _ _ _ _ _ Y, aG fun h => hn (sV.2 h.symm)]
     exact z
   have h3 := q (sortWorldK (fun x : {x // x ∈ l} => enc x.1) k w g 0 m dk os) (x.1, y.1) c Q F
   have ea : ([Value.agg (enc x.1).toArray, Value.agg (enc y.1).toArray] ++ caps.toList).toArray = #[Value.agg (enc x.1).toArray, Value.agg (enc y.1).toArray] ++ caps := by
    apply Array.ext'; simp
   rw [← ea]
   exact bo h3 fun u W' hu => ⟨by rw [hu.1]; show _ = Ending.returned (.int .i64 ((cf (x.1, y.1)).getD 0)); rw [F]; rfl, xB hu.2⟩
  have hT : ∀ x y : {x // x ∈ l}, ltOf (fun (x y : {x // x ∈ l}) => (cf (x.1, y.1)).getD 0) x y = false → ltOf (fun (x y : {x // x ∈ l}) => (cf (x.1, y.1)).getD 0) y x = false → x = y := fun x y a b => by
   rw [K] at a b
   exact Subtype.ext (ok.total _ x.2 _ y.2 a b)
  have d := AnyQ.slices_SortFunc_total L k aE zE (fun x : {x // x ∈ l} => enc x.1) (fun x => hk x.1) (fun x => h1 x.1) (fun x y => (cf (x.1, y.1)).getD 0) hO gg caps g 0 cap l.attach.toArray w J G W a6 (by rw [D]; exact ok.short) hT
  rw [D] at d
  refine bo d fun u w' ⟨hu, n, os, hw⟩ => ?_
  subst hu
  generalize U : l.attach.toArray.toList.mergeSort (fun x y => !ltOf (fun (x y : {x // x ∈ l}) => (cf (x.1, y.1)).getD 0) y x) = s at hw
  have a8 : s.map Subtype.val = lq cf l := by
   rw [← U, ei (s := fun x y => !ly cf y x) (fun a _ b _ => by rw [K])]
   simp [lq]
  have O : s.length = l.length := by rw [← U, dK]; simp
  have M : (lq cf l).length = l.length := by simp [lq, dK]
  have E := wz (w := w) (m := n) (f := putCells id 0 (flatK (fun x : {x // x ∈ l} => enc x.1) k s.toArray)) (os := os) hg
  have ab : w' = Go.Sort.grow (mapBlock (Go.Sort.ahead w n) g (putCells id 0 (flatK (fun x : {x // x ∈ l} => enc x.1) k s.toArray))) os := hw
  rw [← ab] at E
  refine ⟨_, _, rfl, E, _, rfl, (cq _).symm, .inr ⟨g, cap, _, by rw [M], rfl, by omega, Z, by rw [uW, I], ?_⟩⟩
  rw [M, ← O, wO (fun x => hk x.1) s (by rw [O, I]; exact bw k a1), ← a8, cg]
  rfl
end
theorem ru (b : ByteArray) : b.toList = b.data.toList := by rw [cU]
theorem AU (l : List ByteArray) : (l.map jt).flatten = l.map Value.string := by
 induction l with
 | nil => rfl
 | cons x l ih => simp only [aR, bO, ih]; rfl
theorem zm (l : List ByteArray) : (iF l).map (fun b => b.data.toList) = (l.map (fun b => b.data.toList)).mergeSort (fun x y => decide (x ≤ y)) := by
 unfold iF
 refine ei fun a _ b _ => ?_
 unfold jl
 rw [bytesLess_eq, ru, ru]
 by_cases h : a.data.toList ≤ b.data.toList
 ·have c : ¬ b.data.toList < a.data.toList := List.not_lt.2 h
  simp [h, c]
 ·have c : b.data.toList < a.data.toList := by
   cases Decidable.em (b.data.toList < a.data.toList) with
   | inl d => exact d
   | inr d => exact absurd (List.not_lt.1 d) h
  simp [h, c]
end Go.Proofs.YtcafmokjkjcomaaGreat
namespace Go.Proofs.YtcafmokjkjcomaaGreat
open Go.IntKind renaming wrap → wi0
open Go.WideElems Go.WideShapes Go.Sort Go.Proofs Go.Shelf
theorem wH {β : Type} {vf : β → Value} {P : Program} {kt : TypeId} (A : P.underlying kt = some .string) {l : List (ByteArray × β)} {es : Array MapEntry} {clock : Nat} (h : ml Value.string vf l es clock) (y : (l.map (·.1)).Nodup) (z : ∀ p ∈ l, p.1.size ≤ maxLen) (w : l.length ≤ maxLen) {W : World} {b : Nat} (u : W.heap[b]? = some (.map es clock)) : ∃ D : DataW Unit, W.ownsMap P kt (fun _ => some (.lit (.bool true), [])) b es.size D ∧ (strKeys D).Perm (l.map (fun p => p.1.data.toList)) ∧ Maps.size D = l.length := by
 have c := h.keys
 have n : ∀ x ∈ es.toList, ∃ s : ByteArray, x.key = .string s ∧ s.size ≤ maxLen := fun x i => by
  have h1 : x.key ∈ es.toList.map (·.key) := aS.2 ⟨x, i, rfl⟩
  rw [c] at h1
  obtain ⟨s, g, j⟩ := aS.1 h1
  obtain ⟨p, q, t⟩ := aS.1 g
  exact ⟨s, j.symm, by rw [← t]; exact z p q⟩
 have d : ∀ x ∈ es.toList, ∃ s : ByteArray, x.key = .string s ∧ Go.WideElems.rd (H := Unit) P kt (fun _ => some (.lit (.bool true), [])) x = some (.string s.data.toList, .lit (.bool true)) := fun x i => by
  obtain ⟨s, h1, g⟩ := n x i
  refine ⟨s, h1, ?_⟩
  simp [Go.WideElems.rd, keyOf, A, mapKey, h1, g]
 refine ⟨_, ⟨es, clock, u, ⟨by rw [h.length]; exact w, ⟨h.lt, ?_, ?_⟩, fun x i => ?_⟩, aO _, rfl⟩, ?_, ?_⟩
 ·have := h.born
  rw [List.Nodup, dD]
  exact this.imp (fun {a b} h => by omega)
 ·rw [c]
  rw [List.Nodup, dD]
  exact y.imp (fun {a b} k e => k (by injection e))
 ·obtain ⟨s, _, g⟩ := d x i
  exact ⟨_, g⟩
 ·have h1 := (sorted_perm (es.toList.map (Go.WideElems.rg (H := Unit) P kt (fun _ => some (.lit (.bool true), []))))).map (fun p => strOf p.1)
  refine List.Perm.trans h1 ?_
  have e : (es.toList.map (Go.WideElems.rg (H := Unit) P kt (fun _ => some (.lit (.bool true), [])))).map (fun p => strOf p.1) = l.map (fun p => p.1.data.toList) := by
   have o : (es.toList.map (Go.WideElems.rg (H := Unit) P kt (fun _ => some (.lit (.bool true), [])))).map (fun p => strOf p.1) = (es.toList.map (·.key)).map (fun v => match v with | .string s => s.data.toList | _ => []) := by
    rw [cg, cg]
    refine dW fun x i => ?_
    obtain ⟨s, g, j⟩ := d x i
    simp [Go.WideElems.rg, j, g, strOf]
   rw [o, c, cg, cg]
   rfl
  rw [e]
 ·have h1 := (sorted_perm (es.toList.map (Go.WideElems.rg (H := Unit) P kt (fun _ => some (.lit (.bool true), []))))).length_eq
  show (List.foldr DataW.insert [] _).length = _
  rw [h1, cK, ← h.length]
  simp
theorem uM {l : List ByteArray} {g : List (List UInt8)} (h : g.Perm (l.map fun b => b.data.toList)) : g.mergeSort (fun x y => decide (x ≤ y)) = (iF l).map (fun b => b.data.toList) := by
 rw [zm]
 have le : ∀ a b c : List UInt8, decide (a ≤ b) = true → decide (b ≤ c) = true → decide (a ≤ c) = true := fun a b c h1 d => by
  simp only [cO] at *
  exact List.le_trans h1 d
 have tot : ∀ a b : List UInt8, (decide (a ≤ b) || decide (b ≤ a)) = true := fun a b => by
  simp only [cZ, cO]
  exact List.le_total a b
 refine List.Perm.eq_of_pairwise (le := fun a b => decide (a ≤ b) = true) (fun a b _ _ h1 d => List.le_antisymm (by simpa using h1) (by simpa using d)) (dB le tot _) (dB le tot _) ?_
 exact (dX _ _).trans (h.trans (dX _ _).symm)
section
variable {P : Program} {ρk ρt ρm : Ren}
theorem wu (LK : SlLaysZ.n7 P ρk) (LT : SlLaysZ.n6 P ρt) (LM : SlLaysM.n6 P ρm) (h9 : ρt.f 9 = ρm.f 6) (hK : P.underlying (ρk.t 26) = some .string) (eg : ∀ args w, (callFunc (ρk.f 10) args).run P w = .ok (.enter (ρk.f 10) args) w) (es : ∀ args w, (callFunc (ρt.f 9) args).run P w = .ok (.enter (ρt.f 9) args) w) {β : Type} {vf : β → Value} {l : List (ByteArray × β)} {b : Nat} {mv : Value} {t : TypeId} {W : World} {r : List ByteArray} (u : W.heap[b]? = some (.cells #[mv] t (0, 0))) (hm : mJ Value.string vf (hp W) mv l) (hk : oF l = some r) :
  gw false P (ρt.f 6) [.func (.func (ρk.f 10)) #[] #[.pointer (some ⟨b, 0, none⟩)]] W (ρt.t 26) jt 1 r := by
 unfold oF at hk
 split at hk
 case isFalse => cases hk
 rename_i hc
 obtain ⟨Q, R, T⟩ := hc
 cases hk
 have i : b < W.heap.size := (bQ.1 u).1
 have c : W.cell? ⟨b, 0, none⟩ = some mv := by simp [World.cell?, u]
 have q : AnyZ.SortsIn P ρt Fence.wide 4 :=
  ⟨fun K off cap d W hH hblk s => callsIn_wide.2 (by rw [h9]; exact AnyM.slices_Sort_string LM K off cap d W hH hblk s), fun p cap W => callsIn_wide.2 (by rw [h9]; exact AnyM.slices_Sort_string_none LM p cap W)⟩
 have G : SeqGives Fence.wide 2 P (ρk.f 10) #[.pointer (some ⟨b, 0, none⟩)] encStr (fun d => d.Perm ((l.map (·.1)).map fun b => b.data.toList)) l.length W := by
  rcases hm with ⟨rfl, rfl⟩ | ⟨m, es, clock, rfl, a1, A⟩
  ·have := AnyZ.keys_gives_nil (ρ := ρk) { LK with } Fence.wide 2 trivial rfl b W i c
   intro l' J W' M L O I
   refine CallsIn.mono (this l' J W' M L O I) ?_
   rintro e w' ⟨hv, d, rfl, Z⟩
   exact ⟨hv, [], bW _, Z⟩
  ·obtain ⟨D, E, n, s⟩ := wH hK A Q R (by unfold maxLen; omega) a1
   have := AnyZ.keys_gives (ρ := ρk) { LK with } Fence.wide 2 trivial rfl (by omega) b m es.size D W i c E
   intro l' J W' M L O I
   refine CallsIn.mono (this l' J W' M L (by rw [s]; exact O) I) ?_
   rintro e w' ⟨hv, d, hp, Z⟩
   refine ⟨hv, d, ?_, Z⟩
   rw [cg]
   exact hp.trans n
 have cS := AnyZ.sorted_in LT Fence.wide 5 trivial trivial trivial trivial rfl (by omega) q es (ρk.f 10) #[.pointer (some ⟨b, 0, none⟩)] trivial eg _ l.length (by unfold maxLen; omega) T W G
 refine bo (callsIn_wide.1 cS) ?_
 rintro e w' ⟨v, d, rfl, hS, F, a7, a⟩
 have hs := uM hS
 have hlen : d.length = (iF (l.map (·.1))).length := by
  have := aI List.length hs
  simpa using this
 have k : (d.mergeSort (fun x y => decide (x ≤ y))).map encStr = ((iF (l.map (·.1))).map jt).flatten := by
  rw [hs, AU, cg]
  refine dW (fun x _ => ?_)
  simp only [Function.comp, encStr]
 rcases F.2 with ⟨rfl, I⟩ | ⟨g, cap, z, rfl, j, hg, a8, U, Y, a6⟩
 ·have : iF (l.map (·.1)) = [] := cz (by omega)
  rw [this]
  exact ⟨_, [], rfl, jn.vc ⟨a.os, a.tape, a.output, fun h => (by cases h), a.size, fun b u => a.block b u⟩ (fun _ _ h => by cases h) (by simp), fL.nil _ _ _⟩
 ·refine ⟨_, [(g, .cells z (ρt.t 26) (0, 0))], rfl, jn.vc ⟨a.os, a.tape, a.output, fun h => (by cases h), a.size, fun b u => a.block b u⟩ (fun b o h => by simp at h; obtain ⟨rfl, rfl⟩ := h; exact ⟨hg, j⟩) (by simp), .inr ⟨g, cap, z, by rw [hlen], rfl, by omega, U, Y, ?_⟩⟩
  rw [← hlen, a6, k]
end
end Go.Proofs.YtcafmokjkjcomaaGreat
namespace Go.Proofs.YtcafmokjkjcomaaGreat
open Go.IntKind renaming wrap → wi0
def du := @Tryz.underlying9
def dA := @Tryz.zeroValue9
def dO := @Tryz.underlying0
def dT := @Tryz.zeroValue0
def ec := @Tryz.sizeOf9
def et := @Tryz.isAgg9
def eu := @Tryz.underlying39
def eC := @Tryz.underlying4
def eE := @Tryz.zeroValue39
def eJ := @Tryz.sizeOf0
def eQ := @Tryz.zeroValue4
def eU := @Tryz.isAgg0
def zW : Go.Shelf.Ren := ⟨fun | 6 => 70 | 15 => 92 | 14 => 94 | 28 => 110 | 29 => 111 | 20 => 112 | 21 => 113 | 22 => 114 | 23 => 115 | 24 => 116 | 25 => 117 | 26 => 118 | 27 => 119 | 46 => 128 | 47 => 123 | 48 => 124 | 49 => 129 | 50 => 130 | 57 => 133 | n => n, fun | 22 => 41 | 24 => 35 | 25 => 116 | 3 => 3 | 39 => 132 | 0 => 0 | 53 => 153 | 55 => 117 | 4 => 4 | 46 => 145 | 45 => 144 | 50 => 150 | 5 => 5 | 9 => 9 | 66 => 161 | 70 => 165 | 76 => 169 | 77 => 170 | n => n, fun | n => n⟩
theorem BQ : Go.Proofs.SlLaysF0.n6 Tryz.prog zW := {
 mixed := by kernel_rfl,
 f6 := ⟨Tryz.f70.name, by decide, Tryz.func70.trans (aI some (by kernel_rfl))⟩,
 f14 := ⟨Tryz.f94.name, by decide, Tryz.func94.trans (aI some (by kernel_rfl))⟩,
 f15 := Tryz.func92.trans (aI some (by kernel_rfl)),
 f20 := ⟨Tryz.f112.name, by decide, Tryz.func112.trans (aI some (by kernel_rfl))⟩,
 f21 := ⟨Tryz.f113.name, by decide, Tryz.func113.trans (aI some (by kernel_rfl))⟩,
 f22 := ⟨Tryz.f114.name, by decide, Tryz.func114.trans (aI some (by kernel_rfl))⟩,
 f23 := ⟨Tryz.f115.name, by decide, Tryz.func115.trans (aI some (by kernel_rfl))⟩,
 f24 := ⟨Tryz.f116.name, by decide, Tryz.func116.trans (aI some (by kernel_rfl))⟩,
 f25 := ⟨Tryz.f117.name, by decide, Tryz.func117.trans (aI some (by kernel_rfl))⟩,
 f26 := ⟨Tryz.f118.name, by decide, Tryz.func118.trans (aI some (by kernel_rfl))⟩,
 f27 := ⟨Tryz.f119.name, by decide, Tryz.func119.trans (aI some (by kernel_rfl))⟩,
 f28 := Tryz.func110.trans (aI some (by kernel_rfl)),
 f29 := Tryz.func111.trans (aI some (by kernel_rfl)),
 f46 := ⟨Tryz.f128.name, by decide, Tryz.func128.trans (aI some (by kernel_rfl))⟩,
 f47 := Tryz.func123.trans (aI some (by kernel_rfl)),
 f48 := Tryz.func124.trans (aI some (by kernel_rfl)),
 f49 := ⟨Tryz.f129.name, by decide, Tryz.func129.trans (aI some (by kernel_rfl))⟩,
 f50 := ⟨Tryz.f130.name, by decide, Tryz.func130.trans (aI some (by kernel_rfl))⟩,
 f57 := ⟨Tryz.f133.name, by decide, Tryz.func133.trans (aI some (by kernel_rfl))⟩,
 t0 := dO,
 a0 := eU,
 z0 := eJ,
 v0 := dT,
 t3 := Tryz.underlying3,
 a3 := Tryz.isAgg3,
 z3 := Tryz.sizeOf3,
 v3 := Tryz.zeroValue3,
 t4 := eC,
 a4 := Tryz.isAgg4,
 z4 := Tryz.sizeOf4,
 v4 := eQ,
 t5 := Tryz.underlying5,
 a5 := Tryz.isAgg5,
 z5 := Tryz.sizeOf5,
 v5 := Tryz.zeroValue5,
 t9 := du,
 a9 := et,
 z9 := ec,
 v9 := dA,
 t22 := Tryz.underlying41,
 a22 := Tryz.isAgg41,
 z22 := Tryz.sizeOf41,
 v22 := Tryz.zeroValue41,
 t25 := Tryz.underlying116,
 a25 := Tryz.isAgg116,
 z25 := Tryz.sizeOf116,
 v25 := Tryz.zeroValue116,
 t39 := Tryz.underlying132,
 a39 := Tryz.isAgg132,
 z39 := Tryz.sizeOf132,
 v39 := Tryz.zeroValue132,
 t45 := Tryz.underlying144,
 a45 := Tryz.isAgg144,
 z45 := Tryz.sizeOf144,
 v45 := Tryz.zeroValue144,
 t46 := Tryz.underlying145,
 a46 := Tryz.isAgg145,
 z46 := Tryz.sizeOf145,
 v46 := Tryz.zeroValue145,
 t50 := Tryz.underlying150,
 a50 := Tryz.isAgg150,
 z50 := Tryz.sizeOf150,
 v50 := Tryz.zeroValue150,
 t53 := Tryz.underlying153,
 a53 := Tryz.isAgg153,
 z53 := Tryz.sizeOf153,
 v53 := Tryz.zeroValue153,
 t55 := Tryz.underlying117,
 a55 := Tryz.isAgg117,
 z55 := Tryz.sizeOf117,
 v55 := Tryz.zeroValue117,
 t66 := Tryz.underlying161,
 a66 := Tryz.isAgg161,
 z66 := Tryz.sizeOf161,
 v66 := Tryz.zeroValue161,
 t70 := Tryz.underlying165,
 a70 := Tryz.isAgg165,
 z70 := Tryz.sizeOf165,
 v70 := Tryz.zeroValue165,
 t76 := Tryz.underlying169,
 a76 := Tryz.isAgg169,
 z76 := Tryz.sizeOf169,
 v76 := Tryz.zeroValue169,
 t77 := Tryz.underlying170,
 a77 := Tryz.isAgg170,
 z77 := Tryz.sizeOf170,
 v77 := Tryz.zeroValue170}
def BL : Go.Shelf.Ren := ⟨fun | 6 => 65 | 8 => 92 | 9 => 91 | 19 => 110 | 20 => 111 | 21 => 101 | 22 => 102 | 23 => 103 | 24 => 104 | 25 => 105 | 26 => 106 | 27 => 107 | 28 => 108 | 29 => 109 | 36 => 122 | 31 => 123 | 32 => 124 | 37 => 125 | 38 => 126 | 39 => 127 | 41 => 132 | n => n, fun | 27 => 39 | 29 => 9 | 3 => 3 | 32 => 132 | 26 => 39 | 0 => 0 | 44 => 153 | 46 => 117 | 4 => 4 | 36 => 145 | 35 => 144 | 41 => 150 | 5 => 5 | 9 => 9 | 53 => 161 | 57 => 165 | 63 => 169 | 64 => 170 | n => n, fun | n => n⟩
theorem BT : Go.Proofs.SlLaysM.n6 Tryz.prog BL := {
 mixed := by kernel_rfl,
 f6 := ⟨Tryz.f65.name, by decide, Tryz.func65.trans (aI some (by kernel_rfl))⟩,
 f8 := Tryz.func92.trans (aI some (by kernel_rfl)),
 f9 := ⟨Tryz.f91.name, by decide, Tryz.func91.trans (aI some (by kernel_rfl))⟩,
 f19 := Tryz.func110.trans (aI some (by kernel_rfl)),
 f20 := Tryz.func111.trans (aI some (by kernel_rfl)),
 f21 := ⟨Tryz.f101.name, by decide, Tryz.func101.trans (aI some (by kernel_rfl))⟩,
 f22 := ⟨Tryz.f102.name, by decide, Tryz.func102.trans (aI some (by kernel_rfl))⟩,
 f23 := ⟨Tryz.f103.name, by decide, Tryz.func103.trans (aI some (by kernel_rfl))⟩,
 f24 := ⟨Tryz.f104.name, by decide, Tryz.func104.trans (aI some (by kernel_rfl))⟩,
 f25 := ⟨Tryz.f105.name, by decide, Tryz.func105.trans (aI some (by kernel_rfl))⟩,
 f26 := ⟨Tryz.f106.name, by decide, Tryz.func106.trans (aI some (by kernel_rfl))⟩,
 f27 := ⟨Tryz.f107.name, by decide, Tryz.func107.trans (aI some (by kernel_rfl))⟩,
 f28 := ⟨Tryz.f108.name, by decide, Tryz.func108.trans (aI some (by kernel_rfl))⟩,
 f29 := ⟨Tryz.f109.name, by decide, Tryz.func109.trans (aI some (by kernel_rfl))⟩,
 f31 := Tryz.func123.trans (aI some (by kernel_rfl)),
 f32 := Tryz.func124.trans (aI some (by kernel_rfl)),
 f36 := ⟨Tryz.f122.name, by decide, Tryz.func122.trans (aI some (by kernel_rfl))⟩,
 f37 := ⟨Tryz.f125.name, by decide, Tryz.func125.trans (aI some (by kernel_rfl))⟩,
 f38 := ⟨Tryz.f126.name, by decide, Tryz.func126.trans (aI some (by kernel_rfl))⟩,
 f39 := ⟨Tryz.f127.name, by decide, Tryz.func127.trans (aI some (by kernel_rfl))⟩,
 f41 := ⟨Tryz.f132.name, by decide, Tryz.func132.trans (aI some (by kernel_rfl))⟩,
 t0 := dO,
 a0 := eU,
 z0 := eJ,
 v0 := dT,
 t3 := Tryz.underlying3,
 a3 := Tryz.isAgg3,
 z3 := Tryz.sizeOf3,
 v3 := Tryz.zeroValue3,
 t4 := eC,
 a4 := Tryz.isAgg4,
 z4 := Tryz.sizeOf4,
 v4 := eQ,
 t5 := Tryz.underlying5,
 a5 := Tryz.isAgg5,
 z5 := Tryz.sizeOf5,
 v5 := Tryz.zeroValue5,
 t9 := du,
 a9 := et,
 z9 := ec,
 v9 := dA,
 t26 := eu,
 a26 := Tryz.isAgg39,
 z26 := Tryz.sizeOf39,
 v26 := eE,
 t27 := eu,
 a27 := Tryz.isAgg39,
 z27 := Tryz.sizeOf39,
 v27 := eE,
 t29 := du,
 a29 := et,
 z29 := ec,
 v29 := dA,
 t32 := Tryz.underlying132,
 a32 := Tryz.isAgg132,
 z32 := Tryz.sizeOf132,
 v32 := Tryz.zeroValue132,
 t35 := Tryz.underlying144,
 a35 := Tryz.isAgg144,
 z35 := Tryz.sizeOf144,
 v35 := Tryz.zeroValue144,
 t36 := Tryz.underlying145,
 a36 := Tryz.isAgg145,
 z36 := Tryz.sizeOf145,
 v36 := Tryz.zeroValue145,
 t41 := Tryz.underlying150,
 a41 := Tryz.isAgg150,
 z41 := Tryz.sizeOf150,
 v41 := Tryz.zeroValue150,
 t44 := Tryz.underlying153,
 a44 := Tryz.isAgg153,
 z44 := Tryz.sizeOf153,
 v44 := Tryz.zeroValue153,
 t46 := Tryz.underlying117,
 a46 := Tryz.isAgg117,
 z46 := Tryz.sizeOf117,
 v46 := Tryz.zeroValue117,
 t53 := Tryz.underlying161,
 a53 := Tryz.isAgg161,
 z53 := Tryz.sizeOf161,
 v53 := Tryz.zeroValue161,
 t57 := Tryz.underlying165,
 a57 := Tryz.isAgg165,
 z57 := Tryz.sizeOf165,
 v57 := Tryz.zeroValue165,
 t63 := Tryz.underlying169,
 a63 := Tryz.isAgg169,
 z63 := Tryz.sizeOf169,
 v63 := Tryz.zeroValue169,
 t64 := Tryz.underlying170,
 a64 := Tryz.isAgg170,
 z64 := Tryz.sizeOf170,
 v64 := Tryz.zeroValue170}
def Bb : Go.Shelf.Ren := ⟨fun | 7 => 38 | 10 => 66 | n => n, fun | 23 => 74 | 26 => 9 | 3 => 36 | 28 => 86 | 0 => 0 | 27 => 85 | 33 => 78 | 4 => 4 | n => n, fun | n => n⟩
theorem A8 : Go.Proofs.SlLaysZ.n7 Tryz.prog Bb := {
 mixed := by kernel_rfl,
 f7 := ⟨Tryz.f38.name, by decide, Tryz.func38.trans (aI some (by kernel_rfl))⟩,
 f10 := ⟨Tryz.f66.name, by decide, Tryz.func66.trans (aI some (by kernel_rfl))⟩,
 t0 := dO,
 a0 := eU,
 z0 := eJ,
 v0 := dT,
 t4 := eC,
 a4 := Tryz.isAgg4,
 z4 := Tryz.sizeOf4,
 v4 := eQ,
 t23 := Tryz.underlying74,
 a23 := Tryz.isAgg74,
 z23 := Tryz.sizeOf74,
 v23 := Tryz.zeroValue74,
 t26 := du,
 a26 := et,
 z26 := ec,
 v26 := dA,
 t27 := Tryz.underlying85,
 a27 := Tryz.isAgg85,
 z27 := Tryz.sizeOf85,
 v27 := Tryz.zeroValue85,
 t28 := Tryz.underlying86,
 a28 := Tryz.isAgg86,
 z28 := Tryz.sizeOf86,
 v28 := Tryz.zeroValue86,
 t33 := Tryz.underlying78,
 a33 := Tryz.isAgg78,
 z33 := Tryz.sizeOf78,
 v33 := Tryz.zeroValue78}
def AW : Go.Shelf.Ren := ⟨fun | 6 => 37 | 8 => 64 | 9 => 65 | 11 => 90 | 13 => 92 | 12 => 91 | 23 => 110 | 24 => 111 | 14 => 101 | 15 => 102 | 16 => 103 | 17 => 104 | 18 => 105 | 19 => 106 | 20 => 107 | 21 => 108 | 22 => 109 | 25 => 122 | 26 => 123 | 27 => 124 | 28 => 125 | 29 => 126 | 30 => 127 | 31 => 132 | n => n, fun | 26 => 9 | 28 => 86 | 24 => 39 | 0 => 0 | 3 => 3 | 37 => 132 | 48 => 153 | 50 => 117 | 4 => 4 | 40 => 145 | 39 => 144 | 45 => 150 | 5 => 5 | 9 => 9 | 51 => 161 | 55 => 165 | 57 => 169 | 58 => 170 | 33 => 78 | n => n, fun | n => n⟩
theorem Bn : Go.Proofs.SlLaysZ.n6 Tryz.prog AW := {
 mixed := by kernel_rfl,
 f6 := ⟨Tryz.f37.name, by decide, Tryz.func37.trans (aI some (by kernel_rfl))⟩,
 f8 := ⟨Tryz.f64.name, by decide, Tryz.func64.trans (aI some (by kernel_rfl))⟩,
 f11 := ⟨Tryz.f90.name, by decide, Tryz.func90.trans (aI some (by kernel_rfl))⟩,
 t0 := dO,
 a0 := eU,
 z0 := eJ,
 v0 := dT,
 t24 := eu,
 a24 := Tryz.isAgg39,
 z24 := Tryz.sizeOf39,
 v24 := eE,
 t26 := du,
 a26 := et,
 z26 := ec,
 v26 := dA,
 t28 := Tryz.underlying86,
 a28 := Tryz.isAgg86,
 z28 := Tryz.sizeOf86,
 v28 := Tryz.zeroValue86,
 i26 := by kernel_rfl}
end Go.Proofs.YtcafmokjkjcomaaGreat
namespace Go.Proofs.YtcafmokjkjcomaaGreat
open Go.IntKind renaming wrap → wi0
open Go.RowKit
set_option maxRecDepth 10000
noncomputable section
structure fE where
 eZ : ByteArray
 fg : ByteArray
def fD (x : fE) : List Value := [.string x.eZ, .string x.fg]
def im (x y : fE) : Bool := (fP x.eZ y.eZ) && ((fP x.fg y.fg) && true)
theorem jM {x y : fE} : im x y = true ↔ x = y := by
 cases x; cases y; simp [im, gJ]
theorem mE (x : fE) : ∀ u ∈ fD x, u.oneCell' = true := by
 intro u hu
 simp only [fD, aC, bk, cI] at hu
 rcases hu with rfl | rfl <;> rfl
structure eY where
 Kind : Int
 Head : fE
 fu : ByteArray
 B : fE
 C : fE
 fB : ByteArray
def fa (x : eY) : List Value := [.int .i64 x.Kind, .string x.Head.eZ, .string x.Head.fg, .string x.fu, .string x.B.eZ, .string x.B.fg, .string x.C.eZ, .string x.C.fg, .string x.fB]
def jq (x y : eY) : Bool := (x.Kind == y.Kind) && ((im x.Head y.Head) && ((fP x.fu y.fu) && ((im x.B y.B) && ((im x.C y.C) && ((fP x.fB y.fB) && true)))))
theorem qq {x y : eY} : jq x y = true ↔ x = y := by
 cases x; cases y; simp [jq, gJ, jM]
theorem gD (x : eY) : (fa x).length = 9 := rfl
theorem iH (x : eY) : ∀ u ∈ fa x, u.oneCell' = true := by
 intro u hu
 simp only [fa, aC, bk, cI] at hu
 rcases hu with rfl | rfl | rfl | rfl | rfl | rfl | rfl | rfl | rfl <;> rfl
structure Key where
 fu : ByteArray
 Key : List Int
structure fA where
 eY : eY
 Tag : List Int
structure fW where
 m : List (ByteArray × (List Int))
def ir (a0 : ByteArray) (a : Int) : Option Int :=
 some (nn a0 a)
def jA (a0 : ByteArray) (a : Int) : Option Int :=
 ((ir a0 a).bind fun c => some c)
def lR  : List Int → Option Bool
 | [] => some true
 | d :: a => ((jA (⟨#[97, 98, 99, 100, 101, 102, 103, 104, 105, 106, 107, 108, 109, 110, 111, 112, 113, 114, 115, 116, 117, 118, 119, 120, 121, 122, 48, 49, 50, 51, 52, 53, 54, 55, 56, 57, 45]⟩ : ByteArray) d).bind fun c => (if (decide (c < 0)) then some false else (lR a)))
def qj (a0 : ByteArray) : Option Bool :=
 ((ob a0).bind fun a => lR a)
def iR (a0 : ByteArray) : Option Bool :=
 ((if (decide ((a0.size : Int) ≥ 1)) then some (decide ((a0.size : Int) ≤ 16)) else some false).bind fun x2 => ((if x2 then ((oC a0 0).bind fun a => ((jA (⟨#[97, 98, 99, 100, 101, 102, 103, 104, 105, 106, 107, 108, 109, 110, 111, 112, 113, 114, 115, 116, 117, 118, 119, 120, 121, 122]⟩ : ByteArray) (a.toNat : Int)).bind fun d => some (decide (d ≥ 0)))) else some false).bind fun g => ((if g then ((qj a0).bind fun c => some c) else some false).bind fun h => some h)))
def gV (a0 : List Int) : Option (List Int) :=
 ((kY 1 ([]) a0).bind fun a => some a)
def lj  : List Key → (List (ByteArray × (List Int))) → Option ((Option fW) × Int)
 | [], c => some ((some (⟨c⟩ : fW)), 0)
 | a :: d, c => ((iR a.fu).bind fun h => (if (!h) then some (none, 30) else ((if (decide ((a.Key.length : Int) < 1)) then some true else some (decide ((a.Key.length : Int) > 32))).bind fun j => (if j then some (none, 21) else (if (iy fP c a.fu).isSome then some (none, 41) else ((gV a.Key).bind fun i => ((we fP c a.fu i).bind fun g => (lj d g))))))))
def nj (a0 : List Key) : Option ((Option fW) × Int) :=
 lj a0 ([])
def jf (a0 : fE) : Option Bool :=
 ((iR a0.eZ).bind fun d => ((if d then ((iR a0.fg).bind fun a => some a) else some false).bind fun c => some c))
def iW (a0 a : ByteArray) : Option Int :=
 some (lC a0 a)
def lO (a0 a : ByteArray) : Option Int :=
 ((iW a0 a).bind fun c => some c)
def mK  : List Int → Option Int
 | [] => some 0
 | a :: c => (if (a != 0) then some a else (mK c))
def pB (a0 : List Int) : Option Int :=
 mK a0
def ni (a0 g : fE) : Option Int :=
 ((lO a0.eZ g.eZ).bind fun a => ((lO a0.fg g.fg).bind fun c => ((pB ([a, c])).bind fun d => some d)))
def jh (a0 : eY) : Option Bool :=
 ((jf a0.Head).bind fun A => (((if (a0.Kind == 1) then ((if A then ((iR a0.fu).bind fun c => some c) else some false).bind fun q => some (Sum.inr (q, (⟨a0.Kind, a0.Head, a0.fu, (⟨zS, zS⟩ : fE), (⟨zS, zS⟩ : fE), zS⟩ : eY)))) else (if (a0.Kind == 2) then ((if A then ((jf a0.B).bind fun d => some d) else some false).bind fun t => some (Sum.inr (t, (⟨a0.Kind, a0.Head, zS, a0.B, (⟨zS, zS⟩ : fE), zS⟩ : eY)))) else (if (a0.Kind == 3) then ((if A then ((jf a0.B).bind fun h => some h) else some false).bind fun u => ((if u then some (fP a0.B.eZ a0.Head.eZ) else some false).bind fun v => ((if v then ((iR a0.fB).bind fun g => some g) else some false).bind fun w => some (Sum.inr (w, (⟨a0.Kind, a0.Head, zS, a0.B, (⟨zS, zS⟩ : fE), a0.fB⟩ : eY)))))) else (if (a0.Kind == 4) then ((if A then ((jf a0.B).bind fun k => some k) else some false).bind fun x => ((if x then ((jf a0.C).bind fun j => some j) else some false).bind fun y => ((if y then ((ni a0.B a0.C).bind fun i => some (decide (i < 0))) else some false).bind fun z => some (Sum.inr (z, (⟨a0.Kind, a0.Head, zS, a0.B, a0.C, zS⟩ : eY)))))) else some (Sum.inl false))))) : Option (Bool ⊕ (Bool × eY))).bind fun s => match s with | .inl a => some a | .inr (n, o) => ((if n then some (jq o a0) else some false).bind fun p => some p)))
def jO (a0 : Option fW) (c : eY) : Option ((List Int) × Int) :=
 (if a0.isNone then some ([], 1) else ((jh c).bind fun d => (if (!d) then some ([], 11) else (a0.bind fun a => (if (!((iy fP a.m c.Head.eZ).isSome)) then some ([], 21) else some (((iy fP a.m c.Head.eZ).getD []), 0))))))
def iO  : Nat → Int → (List Int) → Option (Bool × (List Int))
 | 0, _, _ => none
 | h + 1, a, d => (if (decide (a ≥ 128)) then ((kY 1 d ([(IntKind.u8.wrap (BitVec.ofInt (IntKind.bits .u8) (IntKind.u8.wrap a) ||| BitVec.ofInt (IntKind.bits .u8) 128).toNat)])).bind fun g => (iO h (Int.fdiv a (2 ^ min (Int.toNat 7) (IntKind.bits .i64))) g)) else ((kY 1 d ([(IntKind.u8.wrap a)])).bind fun c => some (true, c)))
def jy (a : List Int) (c : Int) : Option (Bool × (List Int)) :=
 (if (decide (c < 0)) then some (false, a) else iO ib c a)
def kp (a c : List Int) : Option (Bool × (List Int)) :=
 (if (decide ((c.length : Int) > 2048)) then some (false, a) else ((jy a (c.length : Int)).bind fun g => ((kY 1 g.2 c).bind fun d => some (true, d))))
def kJ (a : List Int) (i : ByteArray) : Option (Bool × (List Int)) :=
 ((iR i).bind fun j => (((if j then ((ob i).bind fun g => ((kp a g).bind fun c => some (c.1, c.2))) else some (false, a)) : Option (Bool × (List Int))).bind fun (h, d) => some (h, d)))
def jd (a : List Int) (h : fE) : Option (Bool × (List Int)) :=
 ((jf h).bind fun n => (((if n then ((kJ a h.eZ).bind fun g => some (g.1, g.2)) else some (false, a)) : Option (Bool × (List Int))).bind fun (j, c) => (((if j then ((kJ c h.fg).bind fun d => some (d.1, d.2)) else some (false, c)) : Option (Bool × (List Int))).bind fun (k, i) => some (k, i))))
def jD (a : List Int) : Option (List Int) :=
 ((gV a).bind fun c => some c)
def jg (a0 : eY) : Option (List Int) :=
 ((jh a0).bind fun o => (if (!o) then some [] else ((jy ([]) a0.Kind).bind fun p => ((jd p.2 a0.Head).bind fun a => (((if (a0.Kind == 1) then ((kJ a.2 a0.fu).bind fun g => some g.2) else (if (a0.Kind == 2) then ((jd a.2 a0.B).bind fun h => some h.2) else (if (a0.Kind == 3) then ((jd a.2 a0.B).bind fun i => ((kJ i.2 a0.fB).bind fun j => some j.2)) else (if (a0.Kind == 4) then ((jd a.2 a0.B).bind fun k => ((jd k.2 a0.C).bind fun n => some n.2)) else some a.2)))) : Option (List Int)).bind fun c => ((jD c).bind fun d => some d))))))
def jK (a0 : List Int) : Option Bool :=
 ((if (decide ((a0.length : Int) ≥ 1)) then some (decide ((a0.length : Int) ≤ 32)) else some false).bind fun x2 => some x2)
def mS  : List Int → Int → Option Int
 | [], a => some a
 | d :: c, a => (mS c (IntKind.u64.wrap ((IntKind.u64.wrap (BitVec.ofInt (IntKind.bits .u64) a ^^^ BitVec.ofInt (IntKind.bits .u64) (IntKind.u64.wrap d)).toNat) * 1099511628211)))
def mW  : List (List Int) → Int → Option Int
 | [], a => some a
 | d :: c, a => ((mS d a).bind fun g => (mW c g))
def rH (a0 : List (List Int)) : Option Int :=
 mW a0 14695981039346656037
def kj (c : Int) : List Int → Nat → (List Int) → Option (List Int)
 | [], _, a => some a
 | h :: d, i68, a => ((kH (decide (0 ≤ (wi0 .i64 (8 * (wi0 .i64 (7 - (i68 : Int)))))))).bind fun _ => ((jz a (i68 : Int)).bind fun g => (kj c d (i68 + 1) (a.set (Int.toNat (i68 : Int)) (IntKind.u8.wrap (Int.fdiv c (2 ^ min (Int.toNat (wi0 .i64 (8 * (wi0 .i64 (7 - (i68 : Int)))))) (IntKind.bits .u64))))))))
def nO (a0 d : List Int) : Option (List Int) :=
 ((jK a0).bind fun g => (if (!g) then some [] else ((rH ([[(IntKind.u8.wrap (a0.length : Int))], a0, d, a0])).bind fun c => ((qH 1 0 8).bind fun a => kj c a 0 a))))
def iu (a0 : Option fW) (a : eY) : Option (fA × Int) :=
 ((jO a0 a).bind fun c => (if (c.2 != 0) then some ((⟨(⟨0, (⟨zS, zS⟩ : fE), zS, (⟨zS, zS⟩ : fE), (⟨zS, zS⟩ : fE), zS⟩ : eY), []⟩ : fA), c.2) else ((jg a).bind fun d => ((nO c.1 d).bind fun g => some ((⟨a, g⟩ : fA), 0)))))
def nA (a0 a : List Int) : Option Bool :=
 some (fP (kF a0) (kF a))
def nk (a0 g a2 : List Int) : Option Bool :=
 ((jK a0).bind fun h => ((if h then ((nO a0 g).bind fun a => ((nA a a2).bind fun c => some c)) else some false).bind fun d => some d))
def gd (a0 : Option fW) (g : fA) : Option Int :=
 ((jO a0 g.eY).bind fun h => ((if (h.2 == 0) then ((jg g.eY).bind fun a => ((nk h.1 a g.Tag).bind fun c => some (!c))) else some false).bind fun d => (if d then some 20 else some h.2)))
def jw (a0 : List eY) : Option (List eY) :=
 ((kY 136 ([]) a0).bind fun a => some a)
def iv (f1 : eY → Option Bool) : List eY → Nat → Option Int
 | [], _ => some (-1)
 | d :: a, i35 => ((f1 d).bind fun c => (if c then some (i35 : Int) else (iv f1 a (i35 + 1))))
def kX (a0 : List eY) (f1 : eY → Option Bool) : Option Int :=
 iv f1 a0 0
def gG (f1 : eY → Option Bool) : Nat → (List eY) → Int → Int → Option (List eY)
 | 0, _, _, _ => none
 | n321 + 1, c, a, d => (if (decide (d < (c.length : Int))) then ((((jz c d).bind fun g => ((f1 g).bind fun i => (if (!i) then ((jz c a).bind fun k => some ((c.set (Int.toNat a) g), (wi0 .i64 (a + 1)))) else some (c, a)))) : Option ((List eY) × Int)).bind fun (h, j) => (gG f1 n321 h j (wi0 .i64 (d + 1)))) else ((kH (decide (0 ≤ a) && decide (a ≤ (c.length : Int)))).bind fun _ => ((kH (decide (0 ≤ a) && decide (a ≤ ((jR c (Int.toNat a) (⟨0, (⟨zS, zS⟩ : fE), zS, (⟨zS, zS⟩ : fE), (⟨zS, zS⟩ : fE), zS⟩ : eY)).length : Int)))).bind fun _ => some ((jR c (Int.toNat a) (⟨0, (⟨zS, zS⟩ : fE), zS, (⟨zS, zS⟩ : fE), (⟨zS, zS⟩ : fE), zS⟩ : eY)).take (Int.toNat a)))))
def jk (a0 : List eY) (f1 : eY → Option Bool) : Option (List eY) :=
 ((kX a0 f1).bind fun a => (if (a == (-1)) then some a0 else gG f1 ib a0 a (wi0 .i64 (a + 1))))
def nB (a0 : eY) : Option Bool :=
 ((jh a0).bind fun a => some (!a))
def qf (a0 a : List Int) : Option Int :=
 some (oR a0 a)
def kD (a0 g : eY) : Option Int :=
 ((jg a0).bind fun a => ((jg g).bind fun c => ((qf a c).bind fun d => some d)))
def gZ (c : Int) : Nat → (List eY) → Int → Int → Option ((List eY) × Int)
 | 0, _, _, _ => none
 | i + 1, a, d, g => (if (decide (g < ((a.length - (Int.toNat c) : Nat) : Int))) then ((((jz (a.drop (Int.toNat c)) g).bind fun k => ((jz (a.drop (Int.toNat c)) (wi0 .i64 (g - 1))).bind fun n => (if (!(jq k n)) then ((jz (a.drop (Int.toNat c)) g).bind fun o => ((jz a d).bind fun p => some ((a.set (Int.toNat d) o), (wi0 .i64 (d + 1))))) else some (a, d)))) : Option ((List eY) × Int)).bind fun (h, j) => (gZ c i h j (wi0 .i64 (g + 1)))) else some (a, d))
def hU (a0 : List eY) : Nat → Int → Option (List eY)
 | 0, _ => none
 | g + 1, a => (if (decide (a < (a0.length : Int))) then ((jz a0 a).bind fun h => ((jz a0 (wi0 .i64 (a - 1))).bind fun i => (if (jq h i) then ((kH (decide (0 ≤ a) && decide (a ≤ (a0.length : Int)))).bind fun _ => ((gZ a ib a0 a 1).bind fun (d, c) => ((kH (decide (0 ≤ c) && decide (c ≤ (d.length : Int)))).bind fun _ => ((kH (decide (0 ≤ c) && decide (c ≤ ((jR d (Int.toNat c) (⟨0, (⟨zS, zS⟩ : fE), zS, (⟨zS, zS⟩ : fE), (⟨zS, zS⟩ : fE), zS⟩ : eY)).length : Int)))).bind fun _ => some ((jR d (Int.toNat c) (⟨0, (⟨zS, zS⟩ : fE), zS, (⟨zS, zS⟩ : fE), (⟨zS, zS⟩ : fE), zS⟩ : eY)).take (Int.toNat c)))))) else (hU a0 g (wi0 .i64 (a + 1)))))) else some a0)
def kd (a0 : List eY) : Option (List eY) :=
 (if (decide ((a0.length : Int) < 2)) then some a0 else hU a0 ib 1)
def oh (a0 : List eY) : Option (List eY) :=
 ((jw a0).bind fun g => ((jk g (fun (x : eY) => nB x)).bind fun a => ((pR (fun (x : (eY × eY)) => kD x.1 x.2) a).bind fun c => ((kd c).bind fun d => some d))))
def fZ (a0 : Option fW) : List fA → (List eY) → Option (List eY)
 | [], a => ((oh a).bind fun h => some h)
 | i :: c, a => ((gd a0 i).bind fun g => (if (g == 0) then ((kY 136 a ([i.eY])).bind fun d => (fZ a0 c d)) else (fZ a0 c a)))
def iJ (a0 : Option fW) (a : List fA) : Option (List eY) :=
 fZ a0 a ([])
def kK  : List eY → Int → Option Int
 | [], c => some c
 | a :: d, c => (kK d (wi0 .i64 (c + (wi0 .i64 ((wi0 .i64 ((wi0 .i64 ((wi0 .i64 ((wi0 .i64 ((wi0 .i64 ((wi0 .i64 ((wi0 .i64 (20 + (a.Head.eZ.size : Int))) + (a.Head.fg.size : Int))) + (a.fu.size : Int))) + (a.B.eZ.size : Int))) + (a.B.fg.size : Int))) + (a.C.eZ.size : Int))) + (a.C.fg.size : Int))) + (a.fB.size : Int))))))
def pa (a0 : List eY) : Option Int :=
 kK a0 0
def kP  : List fA → Int → Option Int
 | [], a => some a
 | c :: d, a => ((pa ([c.eY])).bind fun g => (kP d (wi0 .i64 (a + (wi0 .i64 (g + (c.Tag.length : Int)))))))
def jC (h : List fA) : List Key → Int → Option Int
 | [], a => ((kP h a).bind fun c => some c)
 | d :: g, a => (jC h g (wi0 .i64 (a + (wi0 .i64 ((wi0 .i64 (10 + (d.fu.size : Int))) + (d.Key.length : Int))))))
def pe (a0 : List Key) (a : List fA) : Option Int :=
 jC a a0 0
def iV (a0 : ByteArray) : Nat → Int → Option Bool
 | 0, _ => none
 | d + 1, c => (if (decide (c < (a0.size : Int))) then ((oC a0 c).bind fun a => ((if (decide ((a.toNat : Int) < 97)) then some true else some (decide ((a.toNat : Int) > 122))).bind fun g => ((if g then ((if (decide ((a.toNat : Int) < 48)) then some true else some (decide ((a.toNat : Int) > 57))).bind fun j => some j) else some false).bind fun h => ((if h then some ((a.toNat : Int) != 45) else some false).bind fun i => (if i then some false else (iV a0 d (wi0 .i64 (c + 1)))))))) else some true)
def iU (a0 : ByteArray) : Option Bool :=
 ((if (fP a0 zS) then some true else some (decide ((a0.size : Int) > 16))).bind fun x2 => ((if x2 then some true else ((oC a0 0).bind fun c => some (decide ((c.toNat : Int) < 97)))).bind fun d => ((if d then some true else ((oC a0 0).bind fun a => some (decide ((a.toNat : Int) > 122)))).bind fun g => (if g then some false else iV a0 ib 0))))
def lV (a : Key) : List Key → Option (Int ⊕ Unit)
 | [] => some (Sum.inr ())
 | d :: c => (if (fP d.fu a.fu) then some (Sum.inl 41) else (lV a c))
def kC (a0 : List Key) : List Key → Nat → Option Int
 | [], _ => some 0
 | c :: d, a => ((iU c.fu).bind fun h => (if (!h) then some 30 else ((if (decide ((c.Key.length : Int) < 1)) then some true else some (decide ((c.Key.length : Int) > 32))).bind fun i => (if i then some 21 else ((kH (decide (0 ≤ (a : Int)) && decide ((a : Int) ≤ (a0.length : Int)))).bind fun _ => ((lV c (a0.take (Int.toNat (a : Int)))).bind fun s => match s with | .inl g => some g | .inr _ => (kC a0 d (a + 1))))))))
def qv (a0 : List Key) : Option Int :=
 kC a0 a0 0
def la (a0 : fE) : Option Bool :=
 ((iU a0.eZ).bind fun d => ((if d then ((iU a0.fg).bind fun a => some a) else some false).bind fun c => some c))
def og (a0 a : fE) : Option Bool :=
 ((if (jl a0.eZ a.eZ) then some true else ((if (fP a0.eZ a.eZ) then some (jl a0.fg a.fg) else some false).bind fun d => some d)).bind fun c => some c)
def lg (a0 : eY) : Option Bool :=
 ((la a0.Head).bind fun v => (if (!v) then some false else (if (a0.Kind == 1) then ((iU a0.fu).bind fun i => ((if i then some (im a0.B (⟨zS, zS⟩ : fE)) else some false).bind fun k => ((if k then some (im a0.C (⟨zS, zS⟩ : fE)) else some false).bind fun n => ((if n then some (fP a0.fB zS) else some false).bind fun o => some o)))) else ((if (!(fP a0.fu zS)) then some true else ((la a0.B).bind fun d => some (!d))).bind fun p => (if p then some false else (if (a0.Kind == 2) then ((if (im a0.C (⟨zS, zS⟩ : fE)) then some (fP a0.fB zS) else some false).bind fun q => some q) else (if (a0.Kind == 3) then ((if (im a0.C (⟨zS, zS⟩ : fE)) then some (fP a0.B.eZ a0.Head.eZ) else some false).bind fun s => ((if s then ((iU a0.fB).bind fun j => some j) else some false).bind fun t => some t)) else ((if (a0.Kind == 4) then some (fP a0.fB zS) else some false).bind fun u => ((if u then ((la a0.C).bind fun c => some c) else some false).bind fun g => ((if g then ((og a0.B a0.C).bind fun a => some a) else some false).bind fun h => some h))))))))))
def ko  : Nat → Int → ByteArray → Option ByteArray
 | 0, _, _ => none
 | n45 + 1, a, c => (if (decide (a ≥ 128)) then ((mY c (kF ([(IntKind.u8.wrap (wi0 .i64 (128 + (Int.tmod a 128))))]))).bind fun d => (ko n45 (wi0 .i64 (Int.tdiv a 128)) d)) else ((mY c (kF ([(IntKind.u8.wrap a)]))).bind fun g => some g))
def lZ (a0 : Int) : Option ByteArray :=
 ko ib a0 zS
def kL (a0 : ByteArray) : Option ByteArray :=
 ((lZ (a0.size : Int)).bind fun a => ((mY a a0).bind fun c => some c))
def lh (a0 : fE) : Option ByteArray :=
 ((kL a0.eZ).bind fun a => ((kL a0.fg).bind fun c => ((mY a c).bind fun d => some d)))
def kh (a0 : eY) : Option ByteArray :=
 ((lZ a0.Kind).bind fun g => ((lh a0.Head).bind fun h => ((mY g h).bind fun a => (if (a0.Kind == 1) then ((kL a0.fu).bind fun i => ((mY a i).bind fun o => some o)) else ((lh a0.B).bind fun j => ((mY a j).bind fun c => (((if (a0.Kind == 3) then ((kL a0.fB).bind fun n => ((mY c n).bind fun q => some q)) else some c) : Option ByteArray).bind fun d => (((if (a0.Kind == 4) then ((lh a0.C).bind fun k => ((mY d k).bind fun p => some p)) else some d) : Option ByteArray).bind fun s => some s))))))))
def jG (a0 : ByteArray) : Nat → Int → Int → Option Int
 | 0, _, _ => none
 | n38 + 1, c, a => (if (decide (a < (a0.size : Int))) then ((oC a0 a).bind fun d => (jG a0 n38 (IntKind.u64.wrap ((IntKind.u64.wrap (BitVec.ofInt (IntKind.bits .u64) c ^^^ BitVec.ofInt (IntKind.bits .u64) (IntKind.u64.wrap (d.toNat : Int))).toNat) * 1099511628211)) (wi0 .i64 (a + 1)))) else some c)
def oL (a0 : ByteArray) : Option Int :=
 jG a0 ib 14695981039346656037 0
def iB  : Nat → Int → ByteArray → Int → Option ByteArray
 | 0, _, _, _ => none
 | g + 1, a, c, d => (if (decide (d < 8)) then ((mY (kF ([(IntKind.u8.wrap (Int.tmod a 256))])) c).bind fun h => (iB g (IntKind.u64.wrap (Int.tdiv a 256)) h (wi0 .i64 (d + 1)))) else some c)
def mN (a0 a : ByteArray) : Option ByteArray :=
 ((mY (kF ([(IntKind.u8.wrap (a0.size : Int))])) a0).bind fun d => ((mY d a).bind fun g => ((mY g a0).bind fun h => ((oL h).bind fun c => iB ib c zS 0))))
def nf (a0 c : fA) : Option Bool :=
 ((if (jq a0.eY c.eY) then some (fP (kF a0.Tag) (kF c.Tag)) else some false).bind fun a => some a)
def lQ (d : eY) : List Key → Option (ByteArray × Int)
 | [] => some (zS, 21)
 | a :: c => (if (fP a.fu d.Head.eZ) then some ((kF a.Key), 0) else (lQ d c))
def nu (a0 : List Key) (a : eY) : Option (ByteArray × Int) :=
 ((lg a).bind fun c => (if (!c) then some (zS, 11) else lQ a a0))
def mw (a0 : List Key) (a : fA) : Option Int :=
 ((nu a0 a.eY).bind fun c => ((if (c.2 == 0) then ((kh a.eY).bind fun d => ((mN c.1 d).bind fun g => some (!(fP g (kF a.Tag))))) else some false).bind fun h => (if h then some 20 else some c.2)))
def lf (a0 : eY) : Option ByteArray :=
 ((lg a0).bind fun a => (if (!a) then some zS else ((kh a0).bind fun c => some c)))
def jY (a0 d : eY) : Option Int :=
 ((lf a0).bind fun a => ((lf d).bind fun c => (if (jl a c) then some (-1) else (if (!(jl a c || fP a c)) then some 1 else some 0))))
def jI (a : List eY) : List eY → Bool → eY → Option (Bool × eY)
 | [], d, g => some (d, g)
 | c :: h, d, g => ((lg c).bind fun i => ((if i then ((if ((a.length : Int) == 0) then some true else ((jz a (wi0 .i64 ((a.length : Int) - 1))).bind fun s => ((jY s c).bind fun k => some (decide (k < 0))))).bind fun q => some q) else some false).bind fun n => ((if n then ((if (!d) then some true else ((jY c g).bind fun j => some (decide (j < 0)))).bind fun p => some p) else some false).bind fun o => (if o then (jI a h true c) else (jI a h d g)))))
def kB (a0 : List eY) : Nat → (List eY) → Option (List eY)
 | 0, _ => none
 | d + 1, a => ((jI a a0 false (⟨0, (⟨zS, zS⟩ : fE), zS, (⟨zS, zS⟩ : fE), (⟨zS, zS⟩ : fE), zS⟩ : eY)).bind fun (g, h) => (if (!g) then some a else ((kY 136 a ([h])).bind fun c => (kB a0 d c))))
def oM (a0 : List eY) : Option (List eY) :=
 kB a0 ib ([])
def jj (a0 : List Key) : List fA → (List eY) → Option (List eY)
 | [], a => ((oM a).bind fun h => some h)
 | i :: c, a => ((mw a0 i).bind fun g => (if (g == 0) then ((kY 136 a ([i.eY])).bind fun d => (jj a0 c d)) else (jj a0 c a)))
def pC (a0 : List Key) (a : List fA) : Option (List eY) :=
 jj a0 a ([])
def lx (g : List eY) : List eY → Nat → Option Bool
 | [], _ => some true
 | d :: c, i90 => ((jz g (i90 : Int)).bind fun a => (if (!(jq d a)) then some false else (lx g c (i90 + 1))))
def oe (a0 a : List eY) : Option Bool :=
 (if ((a0.length : Int) != (a.length : Int)) then some false else lx a a0 0)
def jE (a : List ByteArray) : List ByteArray → ByteArray → Option ByteArray
 | [], d => some d
 | c :: g, d => ((iU c).bind fun i => ((if i then ((if ((a.length : Int) == 0) then some true else ((jz a (wi0 .i64 ((a.length : Int) - 1))).bind fun h => some (!(jl c h || fP c h)))).bind fun o => some o) else some false).bind fun j => ((if j then ((if (fP d zS) then some true else some (jl c d)).bind fun n => some n) else some false).bind fun k => (if k then (jE a g c) else (jE a g d)))))
def kE (a0 : List ByteArray) : Nat → (List ByteArray) → Option (List ByteArray)
 | 0, _ => none
 | g + 1, a => ((jE a a0 zS).bind fun c => (if (fP c zS) then some a else ((kY 16 a ([c])).bind fun d => (kE a0 g d))))
def oH (a0 : List ByteArray) : Option (List ByteArray) :=
 kE a0 ib ([])
def lD (g : List ByteArray) : List ByteArray → Nat → Option Bool
 | [], _ => some true
 | d :: c, i90 => ((jz g (i90 : Int)).bind fun a => (if (!(fP d a)) then some false else (lD g c (i90 + 1))))
def od (a0 a : List ByteArray) : Option Bool :=
 (if ((a0.length : Int) != (a.length : Int)) then some false else lD a a0 0)
structure fp where
 b : List Int
 gi : Bool
def nH (a c : List Int) : Option (Bool × (List Int)) :=
 ((kY 1 a c).bind fun d => some (true, d))
def nR (a : List Int) (g : fA) : Option (Bool × (List Int)) :=
 ((jh g.eY).bind fun k => ((if (!k) then some true else some ((g.Tag.length : Int) != 8)).bind fun n => (if n then some (false, a) else ((jg g.eY).bind fun i => ((nH a i).bind fun c => (((if c.1 then ((kp c.2 g.Tag).bind fun d => some (d.1, d.2)) else some (false, c.2)) : Option (Bool × (List Int))).bind fun (j, h) => some (j, h)))))))
def km (c : List Int) (a : Bool) : Option Bool :=
 some a
def fT (a0 : fp) (a : Int) : Option (Int ⊕ Unit) :=
 ((if (!a0.gi) then some (a != 0) else some false).bind fun x2 => (if x2 then some (Sum.inl a) else some (Sum.inr ())))
def kw (a0 : fp) (q : Int) : Option (Int ⊕ (Int × fp)) :=
 (((if (q == 9) then ((fT a0 11).bind fun n => match n with | .inl h => some (Sum.inl (Sum.inl h)) | .inr v => some (Sum.inr ())) else some (Sum.inr ())) : Option ((Int ⊕ (Int × fp)) ⊕ Unit)).bind fun s => match s with | .inl i => some i | .inr _ => (((if ((a0.b.length : Int) == 0) then ((fT a0 10).bind fun k => match k with | .inl d => some (Sum.inl (Sum.inl d)) | .inr u => some (Sum.inr ())) else some (Sum.inr ())) : Option ((Int ⊕ (Int × fp)) ⊕ Unit)).bind fun s => match s with | .inl g => some g | .inr _ => ((jz a0.b 0).bind fun p => ((kH (decide (0 ≤ 1) && decide (1 ≤ (a0.b.length : Int)))).bind fun _ => ((((if (p == 0) then some (decide (q > 0)) else some false).bind fun o => (if o then ((fT (⟨(a0.b.drop (Int.toNat 1)), a0.gi⟩ : fp) 11).bind fun j => match j with | .inl a => some (Sum.inl (Sum.inl a)) | .inr t => some (Sum.inr ())) else some (Sum.inr ()))) : Option ((Int ⊕ (Int × fp)) ⊕ Unit)).bind fun s => match s with | .inl c => some c | .inr _ => some (Sum.inr (p, (⟨(a0.b.drop (Int.toNat 1)), a0.gi⟩ : fp))))))))
def gB (p : Int) : Nat → Int → Int → (List Int) → Bool → Option (Int ⊕ (Int × fp))
 | 0, _, _, _, _ => none
 | n161 + 1, d, c, g, o => ((kw (⟨g, o⟩ : fp) c).bind fun n => match n with | .inl h => some (Sum.inl h) | .inr a => ((kH (decide (0 ≤ (wi0 .i64 (7 * c))))).bind fun _ => (if (decide (a.1 < 128)) then (((if (decide ((wi0 .i64 (BitVec.ofInt (IntKind.bits .i64) d ||| BitVec.ofInt (IntKind.bits .i64) (wi0 .i64 ((wi0 .i64 (IntKind.u8.wrap (BitVec.ofInt (IntKind.bits .u8) a.1 &&& BitVec.ofInt (IntKind.bits .u8) 127).toNat)) * 2 ^ min (Int.toNat (wi0 .i64 (7 * c))) (IntKind.bits .i64)))).toNat) > p)) then ((fT a.2 12).bind fun k => match k with | .inl i => some (Sum.inl (Sum.inl i)) | .inr q => some (Sum.inr ())) else some (Sum.inr ())) : Option ((Int ⊕ (Int × fp)) ⊕ Unit)).bind fun s => match s with | .inl j => some j | .inr _ => some (Sum.inr ((wi0 .i64 (BitVec.ofInt (IntKind.bits .i64) d ||| BitVec.ofInt (IntKind.bits .i64) (wi0 .i64 ((wi0 .i64 (IntKind.u8.wrap (BitVec.ofInt (IntKind.bits .u8) a.1 &&& BitVec.ofInt (IntKind.bits .u8) 127).toNat)) * 2 ^ min (Int.toNat (wi0 .i64 (7 * c))) (IntKind.bits .i64)))).toNat), a.2))) else (gB p n161 (wi0 .i64 (BitVec.ofInt (IntKind.bits .i64) d ||| BitVec.ofInt (IntKind.bits .i64) (wi0 .i64 ((wi0 .i64 (IntKind.u8.wrap (BitVec.ofInt (IntKind.bits .u8) a.1 &&& BitVec.ofInt (IntKind.bits .u8) 127).toNat)) * 2 ^ min (Int.toNat (wi0 .i64 (7 * c))) (IntKind.bits .i64)))).toNat) (wi0 .i64 (c + 1)) ((a.2).b) ((a.2).gi)))))
def iS (a0 : fp) (a : Int) : Option (Int ⊕ (Int × fp)) :=
 ((km a0.b a0.gi).bind fun c => (if c then some (Sum.inr (0, a0)) else gB a ib 0 0 a0.b a0.gi))
def jm (a0 : fp) (p : Int) : Option (Int ⊕ ((List Int) × fp)) :=
 ((km a0.b a0.gi).bind fun q => (if q then some (Sum.inr ([], a0)) else ((iS a0 9223372036854775807).bind fun j => match j with | .inl k => some (Sum.inl k) | .inr a => (((if (decide (a.1 > p)) then ((fT a.2 12).bind fun h => match h with | .inl c => some (Sum.inl (Sum.inl c)) | .inr t => some (Sum.inr ())) else (if (decide (a.1 > (((a.2).b).length : Int))) then ((fT a.2 10).bind fun i => match i with | .inl d => some (Sum.inl (Sum.inl d)) | .inr o => some (Sum.inr ())) else some (Sum.inr ()))) : Option ((Int ⊕ ((List Int) × fp)) ⊕ Unit)).bind fun s => match s with | .inl g => some g | .inr _ => ((kH (decide (0 ≤ a.1) && decide (a.1 ≤ (((a.2).b).length : Int)))).bind fun _ => ((gV (((a.2).b).take (Int.toNat a.1))).bind fun n => ((kH (decide (0 ≤ a.1) && decide (a.1 ≤ (((a.2).b).length : Int)))).bind fun _ => some (Sum.inr (n, (⟨(((a.2).b).drop (Int.toNat a.1)), (a.2).gi⟩ : fp))))))))))
def kT (a0 : fp) : Option (Int ⊕ (ByteArray × fp)) :=
 ((jm a0 16).bind fun i => match i with | .inl c => some (Sum.inl c) | .inr a => ((iR (kF a.1)).bind fun g => (if (!g) then ((fT a.2 30).bind fun h => match h with | .inl d => some (Sum.inl d) | .inr j => some (Sum.inr (zS, a.2))) else some (Sum.inr ((kF a.1), a.2)))))
def jV (a0 : fp) : Option (Int ⊕ (fE × fp)) :=
 ((kT a0).bind fun h => match h with | .inl c => some (Sum.inl c) | .inr i => ((kT i.2).bind fun g => match g with | .inl d => some (Sum.inl d) | .inr a => some (Sum.inr ((⟨i.1, a.1⟩ : fE), a.2))))
def nY (a0 : fp) : Option (Int ⊕ (eY × fp)) :=
 ((iS a0 9223372036854775807).bind fun Q => match Q with | .inl T => some (Sum.inl T) | .inr c => ((((if (decide (c.1 < 1)) then some true else some (decide (c.1 > 4))).bind fun R => (if R then ((fT c.2 11).bind fun P => match P with | .inl A => some (Sum.inl (Sum.inl A)) | .inr Y => some (Sum.inr ())) else some (Sum.inr ()))) : Option ((Int ⊕ (eY × fp)) ⊕ Unit)).bind fun s => match s with | .inl D => some D | .inr _ => ((jV c.2).bind fun O => match O with | .inl U => some (Sum.inl U) | .inr a => (((if (c.1 == 1) then ((kT a.2).bind fun G => match G with | .inl t => some (Sum.inl (Sum.inl t)) | .inr g => some (Sum.inr ((⟨c.1, a.1, g.1, (⟨zS, zS⟩ : fE), (⟨zS, zS⟩ : fE), zS⟩ : eY), ((g.2).b), ((g.2).gi)))) else (if (c.1 == 2) then ((jV a.2).bind fun I => match I with | .inl u => some (Sum.inl (Sum.inl u)) | .inr h => some (Sum.inr ((⟨c.1, a.1, zS, h.1, (⟨zS, zS⟩ : fE), zS⟩ : eY), ((h.2).b), ((h.2).gi)))) else (if (c.1 == 3) then ((jV a.2).bind fun K => match K with | .inl v => some (Sum.inl (Sum.inl v)) | .inr n => ((kT n.2).bind fun J => match J with | .inl w => some (Sum.inl (Sum.inl w)) | .inr i => some (Sum.inr ((⟨c.1, a.1, zS, n.1, (⟨zS, zS⟩ : fE), i.1⟩ : eY), ((i.2).b), ((i.2).gi))))) else (if (c.1 == 4) then ((jV a.2).bind fun M => match M with | .inl x => some (Sum.inl (Sum.inl x)) | .inr o => ((jV o.2).bind fun L => match L with | .inl y => some (Sum.inl (Sum.inl y)) | .inr j => some (Sum.inr ((⟨c.1, a.1, zS, o.1, j.1, zS⟩ : eY), ((j.2).b), ((j.2).gi))))) else some (Sum.inr ((⟨c.1, a.1, zS, (⟨zS, zS⟩ : fE), (⟨zS, zS⟩ : fE), zS⟩ : eY), ((a.2).b), ((a.2).gi))))))) : Option ((Int ⊕ (eY × fp)) ⊕ (eY × (List Int) × Bool))).bind fun s => match s with | .inl z => some z | .inr (p, d, k) => ((jh p).bind fun E => (if (!E) then ((fT (⟨d, k⟩ : fp) 11).bind fun F => match F with | .inl q => some (Sum.inl q) | .inr W => some (Sum.inr ((⟨0, (⟨zS, zS⟩ : fE), zS, (⟨zS, zS⟩ : fE), (⟨zS, zS⟩ : fE), zS⟩ : eY), (⟨d, k⟩ : fp)))) else some (Sum.inr (p, (⟨d, k⟩ : fp)))))))))
def mT (a0 : fp) : Option (Int ⊕ (fA × fp)) :=
 ((nY a0).bind fun j => match j with | .inl c => some (Sum.inl c) | .inr k => ((jm k.2 8).bind fun i => match i with | .inl d => some (Sum.inl d) | .inr a => (if ((a.1.length : Int) != 8) then ((fT a.2 11).bind fun h => match h with | .inl g => some (Sum.inl g) | .inr n => some (Sum.inr ((⟨(⟨0, (⟨zS, zS⟩ : fE), zS, (⟨zS, zS⟩ : fE), (⟨zS, zS⟩ : fE), zS⟩ : eY), []⟩ : fA), a.2))) else some (Sum.inr ((⟨k.1, a.1⟩ : fA), a.2)))))
def oT (a0 : fp) (g : fA) : Option (Int ⊕ (fp × fA)) :=
 ((mT a0).bind fun c => match c with | .inl a => some (Sum.inl a) | .inr d => some (Sum.inr (d.2, d.1)))
def kZ (a0 : List Int) (a : fA) : Option (Int × fA) :=
 ((gV a0).bind fun l => ((oT (⟨l, false⟩ : fp) a).bind fun s => some ((tp (fun r => (r.1).b) s), (match s with | .inl _ => a | .inr r => r.2))))
def ia (a0 : List (ByteArray × (List Int))) : Option Unit :=
 some ()
def gH (a0 : Option fW) : Option (List ByteArray) :=
 (if a0.isNone then some [] else (a0.bind fun x4 => ((ia x4.m).bind fun c => ((oF x4.m).bind fun a => some a))))
def lo  : Option Bool :=
 ((nj ([(⟨(⟨#[97]⟩ : ByteArray), [107]⟩ : Key), (⟨(⟨#[98]⟩ : ByteArray), [108]⟩ : Key)])).bind fun c => ((nj ([(⟨(⟨#[97]⟩ : ByteArray), []⟩ : Key)])).bind fun A => ((iu c.1 (⟨1, (⟨(⟨#[97]⟩ : ByteArray), (⟨#[114]⟩ : ByteArray)⟩ : fE), (⟨#[100]⟩ : ByteArray), (⟨zS, zS⟩ : fE), (⟨zS, zS⟩ : fE), zS⟩ : eY)).bind fun a => ((nj ([(⟨(⟨#[97]⟩ : ByteArray), [109]⟩ : Key)])).bind fun D => ((nR ([]) (⟨(a.1).eY, (a.1).Tag⟩ : fA)).bind fun d => ((jD d.2).bind fun h => ((kZ h (⟨(⟨0, (⟨zS, zS⟩ : fE), zS, (⟨zS, zS⟩ : fE), (⟨zS, zS⟩ : fE), zS⟩ : eY), []⟩ : fA)).bind fun g => ((if (c.2 == 0) then some (A.2 == 21) else some false).bind fun p => ((if p then some (a.2 == 0) else some false).bind fun q => ((if q then some ((((a.1).Tag).length : Int) == 8) else some false).bind fun s => ((if s then ((gd c.1 (⟨(a.1).eY, (a.1).Tag⟩ : fA)).bind fun o => some (o == 0)) else some false).bind fun t => ((if t then ((gd D.1 (⟨(a.1).eY, (a.1).Tag⟩ : fA)).bind fun n => some (n == 20)) else some false).bind fun u => ((if u then ((gH c.1).bind fun k => some ((k.length : Int) == 2)) else some false).bind fun v => ((if v then ((iJ c.1 ([(⟨(a.1).eY, (a.1).Tag⟩ : fA), (⟨(⟨1, (⟨(⟨#[97]⟩ : ByteArray), (⟨#[114]⟩ : ByteArray)⟩ : fE), (⟨#[100]⟩ : ByteArray), (⟨zS, zS⟩ : fE), (⟨zS, zS⟩ : fE), zS⟩ : eY), []⟩ : fA)])).bind fun j => some ((j.length : Int) == 1)) else some false).bind fun w => ((if w then some d.1 else some false).bind fun x => ((if x then some (g.1 == 0) else some false).bind fun y => ((if y then ((nf g.2 (⟨(a.1).eY, (a.1).Tag⟩ : fA)).bind fun i => some i) else some false).bind fun z => some z)))))))))))))))))
def nK (a0 : fp) (g : fA) : Option (Int ⊕ (fp × fA)) :=
 ((mT a0).bind fun c => match c with | .inl a => some (Sum.inl a) | .inr d => some (Sum.inr (d.2, d.1)))
def my (a0 : List Int) (a : fA) : Option (Int × fA) :=
 ((gV a0).bind fun l => ((nK (⟨l, false⟩ : fp) a).bind fun s => some ((tp (fun r => (r.1).b) s), (match s with | .inl _ => a | .inr r => r.2))))
def nV (a0 : List Key) (a : eY) : Option (fA × Int) :=
 ((nu a0 a).bind fun g => (if (g.2 != 0) then some ((⟨(⟨0, (⟨zS, zS⟩ : fE), zS, (⟨zS, zS⟩ : fE), (⟨zS, zS⟩ : fE), zS⟩ : eY), []⟩ : fA), g.2) else ((kh a).bind fun d => ((mN g.1 d).bind fun h => ((ob h).bind fun c => some ((⟨a, c⟩ : fA), 0))))))
def jH  : List Key → (List ByteArray) → Option (List ByteArray)
 | [], a => ((oH a).bind fun d => some d)
 | h :: g, a => ((kY 16 a ([h.fu])).bind fun c => (jH g c))
def nz (a0 : List Key) : Option (List ByteArray) :=
 jH a0 ([])
def iG (w : ((Option fW) × Int)) (a0 : List Key) (x : List fA) : List fA → Option Bool
 | [] => ((gH w.1).bind fun j => ((nz a0).bind fun k => ((od j k).bind fun n => ((if n then ((iJ w.1 x).bind fun o => ((pC a0 x).bind fun p => ((oe o p).bind fun q => some q))) else some false).bind fun u => some u))))
 | a :: v => ((iu w.1 a.eY).bind fun c => ((nV a0 a.eY).bind fun d => ((if (c.2 != d.2) then some true else ((nf c.1 d.1).bind fun i => some (!i))).bind fun s => ((if s then some true else ((gd w.1 a).bind fun g => ((mw a0 a).bind fun h => some (g != h)))).bind fun t => (if t then some false else (iG w a0 x v))))))
def lN (a0 : List Key) (h : List fA) : Option Bool :=
 (lo.bind fun q => (if (!q) then some false else ((pe a0 h).bind fun s => (if (decide (s > 3000)) then some true else ((nj a0).bind fun c => ((qv a0).bind fun a => ((if (c.2 != a) then some true else some (a != 0)).bind fun j => (if j then ((if (c.2 == a) then some c.1.isNone else some false).bind fun k => ((if k then ((gd c.1 (⟨(⟨0, (⟨zS, zS⟩ : fE), zS, (⟨zS, zS⟩ : fE), (⟨zS, zS⟩ : fE), zS⟩ : eY), []⟩ : fA)).bind fun g => some (g == 1)) else some false).bind fun n => ((if n then ((gH c.1).bind fun d => some ((d.length : Int) == 0)) else some false).bind fun o => ((if o then ((iJ c.1 h).bind fun i => some ((i.length : Int) == 0)) else some false).bind fun p => some p)))) else iG c a0 h h))))))))
end
end Go.Proofs.YtcafmokjkjcomaaGreat
