/- a part of a proof of KeysBack -/
import Derived.Test.YtcafmokjkjcomaaRtZda
import Derived.Shelf.SlSortCmp.NoneTotal
import Derived.Shelf.SortM.Plain
import Derived.Shelf.SortM.SortNone
import Derived.Shelf.SlIter.Sorted
import Derived.Shelf.SlIter.Nil
import Derived.Test.YtcafmokjkjcomaaProg
import Derived.KernelRfl
set_option linter.all false
namespace Go.Proofs.Ytcafmokjkjcomaa
open Go.IntKind renaming wrap → wi0
open Go.Sort Go.Proofs Go.Shelf
theorem rs {g b : Nat} {o : Obj} : keys [(g, o)] b ↔ b = g := by
 constructor
 ·rintro ⟨a, h⟩
  simp at h
  exact h.1
 ·rintro rfl; exact ⟨o, by simp⟩
theorem oS (w : World) (g m : Nat) (f : Array Value → Array Value) (os : Array Obj) (b : Nat) (c : b < w.heap.size) :
  (Go.Sort.grow (mapBlock (Go.Sort.ahead w m) g f) os).heap[b]? = if g = b then w.heap[b]?.map (onCells f) else w.heap[b]? := by
 have a : b < (mapBlock (Go.Sort.ahead w m) g f).heap.size := by simp only [mapBlock, Go.Sort.ahead, Array.size_modify]; exact c
 rw [heap_grow_old _ _ a]
 simp only [mapBlock, Go.Sort.ahead, bZ]
theorem uO {w : World} {g m : Nat} {f : Array Value → Array Value} {os : Array Obj} {cs : Array Value} {T : TypeId} {fr : Nat × Nat} (c : w.heap[g]? = some (.cells cs T fr)) :
  iF true [(g, .cells cs T fr)] [(g, .cells (f cs) T fr)] w (Go.Sort.grow (mapBlock (Go.Sort.ahead w m) g f) os) := by
 have a : g < w.heap.size := (bH.1 c).1
 refine ⟨⟨rfl, rfl, rfl, ?_, ?_, fun b d i => ?_⟩, fun b o h => ?_, by simp⟩
 ·refine jT.of ?_
  show w.drawn ≤ w.drawn + m
  omega
 ·show w.heap.size ≤ (w.heap.modify g (onCells f) ++ os).size
  simp
 ·rw [oS _ _ _ _ _ _ d, aF fun h => i (rs.2 h.symm)]
 ·simp only [aB, bc, cy, Prod.mk.injEq] at h
  obtain ⟨rfl, rfl⟩ := h
  refine ⟨?_, .inr (rs.2 rfl)⟩
  rw [oS _ _ _ _ _ _ a, aD rfl, c]
  rfl
theorem vP {w W : World} (h : Ex true w W) : ∃ q os, W = Go.Sort.grow (w.drewN q) os := by
 refine ⟨W.drawn - w.drawn, W.heap.extract w.heap.size W.heap.size, ?_⟩
 have g : W.heap = w.heap ++ W.heap.extract w.heap.size W.heap.size := by
  apply Array.ext_getElem?
  intro i
  rw [cT]
  split
  ·rename_i j; exact h.jl i j
  ·rename_i j
   rw [Array.getElem?_extract]
   have n := h.size
   split
   ·rw [show w.heap.size + (i - w.heap.size) = i by omega]
   ·exact Array.getElem?_eq_none (by omega)
 obtain ⟨h1, o, p, s, t⟩ := W
 have a := h.os; have c := h.tape; have d := h.output; have k := h.drawn rfl
 simp only at a c d k g
 unfold Go.Sort.grow World.drewN
 simp only [World.mk.injEq]
 exact ⟨g, c, by omega, a, d⟩
theorem vx {α : Type} [Inhabited α] {enc : α → List Value} {k : Nat} (hk : ∀ x, (enc x).length = k) (l : List α) (j : Nat) (a : j < l.length * k) :
  (l.map enc).flatten[j]? = some ((flatK enc k l.toArray)[j]!) := by
 have g : 0 < k := by
  cases k with
  | zero => simp at a
  | succ n => omega
 have h1 : j / k < l.length := (dz g).2 a
 rw [get_flatK _ _ _ _ (by simpa using a)]
 have h : l.toArray[j / k]! = l[j / k] := by
  rw [getElem!_pos l.toArray (j / k) (by simpa using h1)]; simp
 rw [h]
 have c : j % k < (enc l[j / k]).length := by rw [hk]; exact Nat.mod_lt _ g
 have d := my hk l (j / k) l[j / k] (br h1) (j % k) ((enc l[j / k])[j % k]) (br c)
 rw [Nat.div_add_mod' j k] at d
 rw [d, getElem!_pos (enc l[j / k]) (j % k) c]
theorem tp {α : Type} [Inhabited α] {enc : α → List Value} {k : Nat} (hk : ∀ x, (enc x).length = k) {w : World} {g : Nat} {cs : Array Value} {T : TypeId} (c : w.heap[g]? = some (.cells cs T (0, 0))) (l : List α)
  (h : cs.toList.take (l.length * k) = (l.map enc).flatten) : HoldsK enc k w g 0 l.toArray := by
 intro j d
 have a : j < l.length * k := by simpa using d
 have h1 := vx hk l j a
 rw [← h, cx, aD a] at h1
 refine ⟨?_, ?_⟩
 ·simp only [World.cell?, c, er]
  simpa using h1
 ·simp [World.frozen?, c]
theorem vc {α : Type} [Inhabited α] {enc : α → List Value} {k : Nat} (hk : ∀ x, (enc x).length = k) {cs : Array Value} (l : List α) (c : l.length * k ≤ cs.size) :
  (putCells id 0 (flatK enc k l.toArray) cs).toList.take (l.length * k) = (l.map enc).flatten := by
 apply cC
 intro j
 rw [cx]
 split
 ·rename_i a
  rw [vx hk l j a]
  simp only [putCells, bB, Array.getElem?_mapIdx, size_flatK, bM]
  rw [Array.getElem?_eq_getElem (by omega)]
  simp [a]
 ·rename_i a
  rw [cd (by rw [ko hk]; omega)]
theorem tu (enc : Value → Value) (o : Nat) (d c : Array Value) : (putCells enc o d c).size = c.size := by simp [putCells]
section
variable {α : Type} {P : Program} {ρ : Ren}
theorem zu {l : List α} {cf : α × α → Option Int} (h : qm cf l) : SWO (ltOf fun (x y : {x // x ∈ l}) => (cf (x.1, y.1)).getD 0) ∧
  (∀ x y : {x // x ∈ l}, ltOf (fun (x y : {x // x ∈ l}) => (cf (x.1, y.1)).getD 0) x y = ke cf x.1 y.1) := by
 have e : ∀ x y : {x // x ∈ l}, ltOf (fun (x y : {x // x ∈ l}) => (cf (x.1, y.1)).getD 0) x y = ke cf x.1 y.1 := fun x y => by
  obtain ⟨c, i⟩ := h.is x.1 x.2 y.1 y.2
  simp [ltOf, ke, i]
 refine ⟨⟨fun x => ?_, fun x y z => ?_, fun x y z => ?_⟩, e⟩
 ·rw [e]; exact h.irrefl _ x.2
 ·rw [e, e, e]; exact h.trans _ x.2 _ y.2 _ z.2
 ·rw [e, e, e]
  intro h1 d
  cases a : ke cf x.1 z.1 with
  | false => rfl
  | true =>
   cases g : ke cf y.1 x.1 with
   | true =>
    have := h.trans _ y.2 _ x.2 _ z.2 g a
    rw [d] at this; cases this
   | false =>
    have := h.total _ x.2 _ y.2 h1 g
    rw [this, d] at a; cases a
theorem vd (L : SlLaysF0.n6 P ρ) (k : Nat) (aE : ∀ w, (isAgg (ρ.t 24)).run P w = .ok true w) (zE : ∀ w, (Go.sizeOf (ρ.t 24)).run P w = .ok k w) {e : TypeId} (enc : α → List Value) (hk : ∀ x, (enc x).length = k) (h1 : ∀ x, ∀ u ∈ enc x, u.oneCell' = true) {v fv : Value} {l r : List α} {R : List (Nat × Obj)} {cf : α × α → Option Int} {w : World} {μ0 : eV} (hH : pD (R ++ []) w) (A : eT μ0 (iR w (R ++ []))) (T : fp e enc k v l R) (hc : tQ P fv μ0 (fun (x : α × α) => [(.agg (enc x.1).toArray), (.agg (enc x.2).toArray)]) (fun (r : Int) => (.int .i64 r)) cf) (hm : oB cf l = some r) :
  fX true P (ρ.f 6) [v, fv] w (R ++ []) (fun u L1 _ => ∃ (S : List (Nat × Obj)), u = (.tuple #[]) ∧ L1 = (S ++ []) ∧ fp e enc k v r S) := by
 obtain ⟨ok, rfl⟩ := wj hm
 rw [bY] at hH A ⊢
 rcases cw l.length with h0 | i
 ·have hl : l = [] := cm h0
  subst hl
  have U : kd cf ([] : List α) = [] := by simp [kd]
  rw [U]
  obtain ⟨p, c, rfl⟩ : ∃ p c, v = .slice p 0 c := by
   rcases T with ⟨rfl, _, _⟩ | ⟨g, cap, j, rfl, _⟩
   ·exact ⟨_, _, rfl⟩
   ·exact ⟨_, _, rfl⟩
  refine bi (AnyF.slices_SortFunc_none L p c fv w) fun x w' ⟨hx, hw⟩ => ?_
  subst hx hw
  refine ⟨_, R, rfl, ⟨⟨rfl, rfl, rfl, jT.of (aM _), aM _, fun _ _ _ => rfl⟩, fun b o h => ⟨hH b o h, .inr ⟨o, h⟩⟩, ?_⟩, R, rfl, (bY R).symm, T⟩
  rcases T with ⟨_, _, rfl⟩ | ⟨g, cap, j, _, rfl, _⟩ <;> simp
 ·rcases T with ⟨_, rfl, _⟩ | ⟨g, cap, j, rfl, rfl, a1, Z, I, aa⟩
  ·simp at i
  have hg : w.heap[g]? = some (.cells j e (0, 0)) := hH g _ (by simp)
  have a6 : g < w.heap.size := (bH.1 hg).1
  haveI : Inhabited {x // x ∈ l} := ⟨⟨l[0], List.getElem_mem i⟩⟩
  obtain ⟨gg, caps, rfl, J, q⟩ := hc
  obtain ⟨hO, K⟩ := zu ok
  have D : l.attach.toArray.size = l.length := by simp
  have a7 : l.attach.map (fun x => enc x.1) = l.map enc := by
   rw [show (fun x : {x // x ∈ l} => enc x.1) = enc ∘ Subtype.val from rfl, ← bP, List.attach_map_subtype_val]
  have W : HoldsK (fun x : {x // x ∈ l} => enc x.1) k w g 0 l.attach.toArray := tp (fun x => hk x.1) hg l.attach (by rw [a7, List.length_attach, aa])
  have G : CmpLays P gg caps (fun x : {x // x ∈ l} => enc x.1) k (fun x y => (cf (x.1, y.1)).getD 0) g 0 l.attach.toArray.size w := by
   intro m os dk ad x y
   obtain ⟨c, F⟩ := ok.is x.1 x.2 y.1 y.2
   have Q : eT μ0 (hp (sortWorldK (fun x : {x // x ∈ l} => enc x.1) k w g 0 m dk os)) := fun b o hb => by
    have z := A b o hb
    unfold iR at z
    split at z
    ·cases z
    ·rename_i hn
     have Y : b < w.heap.size := (bH.1 z).1
     show (Go.Sort.grow (mapBlock (Go.Sort.ahead w m) g _) os).heap[b]? = _
     rw [oS _ _ _ _ _ _ Y, aF fun h => hn (rs.2 h.symm)]
     exact z
   have h3 := q (sortWorldK (fun x : {x // x ∈ l} => enc x.1) k w g 0 m dk os) (x.1, y.1) c Q F
   have ea : ([Value.agg (enc x.1).toArray, Value.agg (enc y.1).toArray] ++ caps.toList).toArray = #[Value.agg (enc x.1).toArray, Value.agg (enc y.1).toArray] ++ caps := by
    apply Array.ext'; simp
   rw [← ea]
   exact bi h3 fun u W' hu => ⟨by rw [hu.1]; show _ = Ending.returned (.int .i64 ((cf (x.1, y.1)).getD 0)); rw [F]; rfl, vP hu.2⟩
  have hT : ∀ x y : {x // x ∈ l}, ltOf (fun (x y : {x // x ∈ l}) => (cf (x.1, y.1)).getD 0) x y = false → ltOf (fun (x y : {x // x ∈ l}) => (cf (x.1, y.1)).getD 0) y x = false → x = y := fun x y a b => by
   rw [K] at a b
   exact Subtype.ext (ok.total _ x.2 _ y.2 a b)
  have d := AnyQ.slices_SortFunc_total L k aE zE (fun x : {x // x ∈ l} => enc x.1) (fun x => hk x.1) (fun x => h1 x.1) (fun x y => (cf (x.1, y.1)).getD 0) hO gg caps g 0 cap l.attach.toArray w J G W a6 (by rw [D]; exact ok.short) hT
  rw [D] at d
  refine bi d fun u w' ⟨hu, n, os, hw⟩ => ?_
  subst hu
  generalize U : l.attach.toArray.toList.mergeSort (fun x y => !ltOf (fun (x y : {x // x ∈ l}) => (cf (x.1, y.1)).getD 0) y x) = s at hw
  have a8 : s.map Subtype.val = kd cf l := by
   rw [← U, dT (s := fun x y => !ke cf y x) (fun a _ b _ => by rw [K])]
   simp [kd]
  have O : s.length = l.length := by rw [← U, dB]; simp
  have M : (kd cf l).length = l.length := by simp [kd, dB]
  have E := uO (w := w) (m := n) (f := putCells id 0 (flatK (fun x : {x // x ∈ l} => enc x.1) k s.toArray)) (os := os) hg
  have ab : w' = Go.Sort.grow (mapBlock (Go.Sort.ahead w n) g (putCells id 0 (flatK (fun x : {x // x ∈ l} => enc x.1) k s.toArray))) os := hw
  rw [← ab] at E
  refine ⟨_, _, rfl, E, _, rfl, (bY _).symm, .inr ⟨g, cap, _, by rw [M], rfl, by omega, Z, by rw [tu, I], ?_⟩⟩
  rw [M, ← O, vc (fun x => hk x.1) s (by rw [O, I]; exact bk k a1), ← a8, bP]
  rfl
end
theorem pW (b : ByteArray) : b.toList = b.data.toList := by rw [cJ]
theorem zc (l : List ByteArray) : (l.map oH).flatten = l.map Value.string := by
 induction l with
 | nil => rfl
 | cons x l ih => simp only [aR, bE, ih]; rfl
theorem xD (l : List ByteArray) : (kz l).map (fun b => b.data.toList) = (l.map (fun b => b.data.toList)).mergeSort (fun x y => decide (x ≤ y)) := by
 unfold kz
 refine dT fun a _ b _ => ?_
 unfold nM
 rw [bytesLess_eq, pW, pW]
 by_cases h : a.data.toList ≤ b.data.toList
 ·have c : ¬ b.data.toList < a.data.toList := List.not_lt.2 h
  simp [h, c]
 ·have c : b.data.toList < a.data.toList := by
   cases Decidable.em (b.data.toList < a.data.toList) with
   | inl d => exact d
   | inr d => exact absurd (List.not_lt.1 d) h
  simp [h, c]
end Go.Proofs.Ytcafmokjkjcomaa
namespace Go.Proofs.Ytcafmokjkjcomaa
open Go.IntKind renaming wrap → wi0
open Go.WideElems Go.WideShapes Go.Sort Go.Proofs Go.Shelf
theorem uU {β : Type} {vf : β → Value} {P : Program} {kt : TypeId} (A : P.underlying kt = some .string) {l : List (ByteArray × β)} {es : Array MapEntry} {clock : Nat} (h : kQ Value.string vf l es clock) (y : (l.map (·.1)).Nodup) (z : ∀ p ∈ l, p.1.size ≤ maxLen) (w : l.length ≤ maxLen) {W : World} {b : Nat} (u : W.heap[b]? = some (.map es clock)) : ∃ D : DataW Unit, W.ownsMap P kt (fun _ => some (.lit (.bool true), [])) b es.size D ∧ (strKeys D).Perm (l.map (fun p => p.1.data.toList)) ∧ Maps.size D = l.length := by
 have c := h.keys
 have n : ∀ x ∈ es.toList, ∃ s : ByteArray, x.key = .string s ∧ s.size ≤ maxLen := fun x i => by
  have h1 : x.key ∈ es.toList.map (·.key) := aP.2 ⟨x, i, rfl⟩
  rw [c] at h1
  obtain ⟨s, g, j⟩ := aP.1 h1
  obtain ⟨p, q, t⟩ := aP.1 g
  exact ⟨s, j.symm, by rw [← t]; exact z p q⟩
 have d : ∀ x ∈ es.toList, ∃ s : ByteArray, x.key = .string s ∧ Go.WideElems.rd (H := Unit) P kt (fun _ => some (.lit (.bool true), [])) x = some (.string s.data.toList, .lit (.bool true)) := fun x i => by
  obtain ⟨s, h1, g⟩ := n x i
  refine ⟨s, h1, ?_⟩
  simp [Go.WideElems.rd, keyOf, A, mapKey, h1, g]
 refine ⟨_, ⟨es, clock, u, ⟨by rw [h.length]; exact w, ⟨h.lt, ?_, ?_⟩, fun x i => ?_⟩, aM _, rfl⟩, ?_, ?_⟩
 ·have := h.born
  rw [List.Nodup, dx]
  exact this.imp (fun {a b} h => by omega)
 ·rw [c]
  rw [List.Nodup, dx]
  exact y.imp (fun {a b} k e => k (by injection e))
 ·obtain ⟨s, _, g⟩ := d x i
  exact ⟨_, g⟩
 ·have h1 := (sorted_perm (es.toList.map (Go.WideElems.rg (H := Unit) P kt (fun _ => some (.lit (.bool true), []))))).map (fun p => strOf p.1)
  refine List.Perm.trans h1 ?_
  have e : (es.toList.map (Go.WideElems.rg (H := Unit) P kt (fun _ => some (.lit (.bool true), [])))).map (fun p => strOf p.1) = l.map (fun p => p.1.data.toList) := by
   have o : (es.toList.map (Go.WideElems.rg (H := Unit) P kt (fun _ => some (.lit (.bool true), [])))).map (fun p => strOf p.1) = (es.toList.map (·.key)).map (fun v => match v with | .string s => s.data.toList | _ => []) := by
    rw [bP, bP]
    refine dM fun x i => ?_
    obtain ⟨s, g, j⟩ := d x i
    simp [Go.WideElems.rg, j, g, strOf]
   rw [o, c, bP, bP]
   rfl
  rw [e]
 ·have h1 := (sorted_perm (es.toList.map (Go.WideElems.rg (H := Unit) P kt (fun _ => some (.lit (.bool true), []))))).length_eq
  show (List.foldr DataW.insert [] _).length = _
  rw [h1, cQ, ← h.length]
  simp
theorem tf {l : List ByteArray} {g : List (List UInt8)} (h : g.Perm (l.map fun b => b.data.toList)) : g.mergeSort (fun x y => decide (x ≤ y)) = (kz l).map (fun b => b.data.toList) := by
 rw [xD]
 have le : ∀ a b c : List UInt8, decide (a ≤ b) = true → decide (b ≤ c) = true → decide (a ≤ c) = true := fun a b c h1 d => by
  simp only [cE] at *
  exact List.le_trans h1 d
 have tot : ∀ a b : List UInt8, (decide (a ≤ b) || decide (b ≤ a)) = true := fun a b => by
  simp only [cR, cE]
  exact List.le_total a b
 refine List.Perm.eq_of_pairwise (le := fun a b => decide (a ≤ b) = true) (fun a b _ _ h1 d => List.le_antisymm (by simpa using h1) (by simpa using d)) (du le tot _) (du le tot _) ?_
 exact (List.mergeSort_perm _ _).trans (h.trans (List.mergeSort_perm _ _).symm)
section
variable {P : Program} {ρk ρt ρm : Ren}
theorem uM (LK : SlLaysZ.n7 P ρk) (LT : SlLaysZ.n6 P ρt) (LM : SlLaysM.n6 P ρm) (h9 : ρt.f 9 = ρm.f 6) (hK : P.underlying (ρk.t 26) = some .string) (eg : ∀ args w, (callFunc (ρk.f 10) args).run P w = .ok (.enter (ρk.f 10) args) w) (es : ∀ args w, (callFunc (ρt.f 9) args).run P w = .ok (.enter (ρt.f 9) args) w) {β : Type} {vf : β → Value} {l : List (ByteArray × β)} {b : Nat} {mv : Value} {t : TypeId} {W : World} {r : List ByteArray} (u : W.heap[b]? = some (.cells #[mv] t (0, 0))) (hm : lq Value.string vf (hp W) mv l) (hk : ni l = some r) :
  gu false P (ρt.f 6) [.func (.func (ρk.f 10)) #[] #[.pointer (some ⟨b, 0, none⟩)]] W (ρt.t 26) oH 1 r := by
 unfold ni at hk
 split at hk
 case isFalse => cases hk
 rename_i hc
 obtain ⟨Q, R, T⟩ := hc
 cases hk
 have i : b < W.heap.size := (bH.1 u).1
 have c : W.cell? ⟨b, 0, none⟩ = some mv := by simp [World.cell?, u]
 have q : AnyZ.SortsIn P ρt Fence.wide 4 :=
  ⟨fun K off cap d W hH hblk s => callsIn_wide.2 (by rw [h9]; exact AnyM.slices_Sort_string LM K off cap d W hH hblk s), fun p cap W => callsIn_wide.2 (by rw [h9]; exact AnyM.slices_Sort_string_none LM p cap W)⟩
 have G : SeqGives Fence.wide 2 P (ρk.f 10) #[.pointer (some ⟨b, 0, none⟩)] encStr (fun d => d.Perm ((l.map (·.1)).map fun b => b.data.toList)) l.length W := by
  rcases hm with ⟨rfl, rfl⟩ | ⟨m, es, clock, rfl, a1, A⟩
  ·have := AnyZ.keys_gives_nil (ρ := ρk) { LK with } Fence.wide 2 trivial rfl b W i c
   intro l' J W' M L O I
   refine CallsIn.mono (this l' J W' M L O I) ?_
   rintro e w' ⟨hv, d, rfl, Z⟩
   exact ⟨hv, [], bW _, Z⟩
  ·obtain ⟨D, E, n, s⟩ := uU hK A Q R (by unfold maxLen; omega) a1
   have := AnyZ.keys_gives (ρ := ρk) { LK with } Fence.wide 2 trivial rfl (by omega) b m es.size D W i c E
   intro l' J W' M L O I
   refine CallsIn.mono (this l' J W' M L (by rw [s]; exact O) I) ?_
   rintro e w' ⟨hv, d, hp, Z⟩
   refine ⟨hv, d, ?_, Z⟩
   rw [bP]
   exact hp.trans n
 have cS := AnyZ.sorted_in LT Fence.wide 5 trivial trivial trivial trivial rfl (by omega) q es (ρk.f 10) #[.pointer (some ⟨b, 0, none⟩)] trivial eg _ l.length (by unfold maxLen; omega) T W G
 refine bi (callsIn_wide.1 cS) ?_
 rintro e w' ⟨v, d, rfl, hS, F, a7, a⟩
 have hs := tf hS
 have hlen : d.length = (kz (l.map (·.1))).length := by
  have := aG List.length hs
  simpa using this
 have k : (d.mergeSort (fun x y => decide (x ≤ y))).map encStr = ((kz (l.map (·.1))).map oH).flatten := by
  rw [hs, zc, bP]
  refine dM (fun x _ => ?_)
  simp only [Function.comp, encStr]
 rcases F.2 with ⟨rfl, I⟩ | ⟨g, cap, z, rfl, j, hg, a8, U, Y, a6⟩
 ·have : kz (l.map (·.1)) = [] := cm (by omega)
  rw [this]
  exact ⟨_, [], rfl, iF.tA ⟨a.os, a.tape, a.output, fun h => (by cases h), a.size, fun b u => a.block b u⟩ (fun _ _ h => by cases h) (by simp), fp.nil _ _ _⟩
 ·refine ⟨_, [(g, .cells z (ρt.t 26) (0, 0))], rfl, iF.tA ⟨a.os, a.tape, a.output, fun h => (by cases h), a.size, fun b u => a.block b u⟩ (fun b o h => by simp at h; obtain ⟨rfl, rfl⟩ := h; exact ⟨hg, j⟩) (by simp), .inr ⟨g, cap, z, by rw [hlen], rfl, by omega, U, Y, ?_⟩⟩
  rw [← hlen, a6, k]
end
end Go.Proofs.Ytcafmokjkjcomaa
namespace Go.Proofs.Ytcafmokjkjcomaa
open Go.IntKind renaming wrap → wi0
def dt := @Try.underlying9
def dy := @Try.zeroValue9
def dJ := @Try.underlying0
def dU := @Try.zeroValue0
def ed := @Try.sizeOf9
def en := @Try.underlying54
def et := @Try.isAgg9
def eA := @Try.underlying4
def eB := @Try.zeroValue54
def eF := @Try.sizeOf0
def yk : Go.Shelf.Ren := ⟨fun | 6 => 45 | 15 => 61 | 14 => 60 | 28 => 77 | 29 => 78 | 20 => 69 | 21 => 70 | 22 => 71 | 23 => 72 | 24 => 73 | 25 => 74 | 26 => 75 | 27 => 76 | 46 => 90 | 47 => 91 | 48 => 92 | 49 => 93 | 50 => 94 | 57 => 100 | n => n, fun | 22 => 39 | 24 => 26 | 25 => 92 | 3 => 3 | 39 => 104 | 0 => 0 | 53 => 123 | 55 => 84 | 4 => 4 | 46 => 116 | 45 => 115 | 50 => 120 | 5 => 5 | 9 => 9 | 66 => 132 | 70 => 136 | 76 => 140 | 77 => 141 | n => n, fun | n => n⟩
theorem Al : Go.Proofs.SlLaysF0.n6 Try.prog yk := {
 mixed := by kernel_rfl,
 f6 := ⟨Try.f45.name, by decide, Try.func45.trans (aG some (by kernel_rfl))⟩,
 f14 := ⟨Try.f60.name, by decide, Try.func60.trans (aG some (by kernel_rfl))⟩,
 f15 := Try.func61.trans (aG some (by kernel_rfl)),
 f20 := ⟨Try.f69.name, by decide, Try.func69.trans (aG some (by kernel_rfl))⟩,
 f21 := ⟨Try.f70.name, by decide, Try.func70.trans (aG some (by kernel_rfl))⟩,
 f22 := ⟨Try.f71.name, by decide, Try.func71.trans (aG some (by kernel_rfl))⟩,
 f23 := ⟨Try.f72.name, by decide, Try.func72.trans (aG some (by kernel_rfl))⟩,
 f24 := ⟨Try.f73.name, by decide, Try.func73.trans (aG some (by kernel_rfl))⟩,
 f25 := ⟨Try.f74.name, by decide, Try.func74.trans (aG some (by kernel_rfl))⟩,
 f26 := ⟨Try.f75.name, by decide, Try.func75.trans (aG some (by kernel_rfl))⟩,
 f27 := ⟨Try.f76.name, by decide, Try.func76.trans (aG some (by kernel_rfl))⟩,
 f28 := Try.func77.trans (aG some (by kernel_rfl)),
 f29 := Try.func78.trans (aG some (by kernel_rfl)),
 f46 := ⟨Try.f90.name, by decide, Try.func90.trans (aG some (by kernel_rfl))⟩,
 f47 := Try.func91.trans (aG some (by kernel_rfl)),
 f48 := Try.func92.trans (aG some (by kernel_rfl)),
 f49 := ⟨Try.f93.name, by decide, Try.func93.trans (aG some (by kernel_rfl))⟩,
 f50 := ⟨Try.f94.name, by decide, Try.func94.trans (aG some (by kernel_rfl))⟩,
 f57 := ⟨Try.f100.name, by decide, Try.func100.trans (aG some (by kernel_rfl))⟩,
 t0 := dJ,
 a0 := Try.isAgg0,
 z0 := eF,
 v0 := dU,
 t3 := Try.underlying3,
 a3 := Try.isAgg3,
 z3 := Try.sizeOf3,
 v3 := Try.zeroValue3,
 t4 := eA,
 a4 := Try.isAgg4,
 z4 := Try.sizeOf4,
 v4 := Try.zeroValue4,
 t5 := Try.underlying5,
 a5 := Try.isAgg5,
 z5 := Try.sizeOf5,
 v5 := Try.zeroValue5,
 t9 := dt,
 a9 := et,
 z9 := ed,
 v9 := dy,
 t22 := Try.underlying39,
 a22 := Try.isAgg39,
 z22 := Try.sizeOf39,
 v22 := Try.zeroValue39,
 t25 := Try.underlying92,
 a25 := Try.isAgg92,
 z25 := Try.sizeOf92,
 v25 := Try.zeroValue92,
 t39 := Try.underlying104,
 a39 := Try.isAgg104,
 z39 := Try.sizeOf104,
 v39 := Try.zeroValue104,
 t45 := Try.underlying115,
 a45 := Try.isAgg115,
 z45 := Try.sizeOf115,
 v45 := Try.zeroValue115,
 t46 := Try.underlying116,
 a46 := Try.isAgg116,
 z46 := Try.sizeOf116,
 v46 := Try.zeroValue116,
 t50 := Try.underlying120,
 a50 := Try.isAgg120,
 z50 := Try.sizeOf120,
 v50 := Try.zeroValue120,
 t53 := Try.underlying123,
 a53 := Try.isAgg123,
 z53 := Try.sizeOf123,
 v53 := Try.zeroValue123,
 t55 := Try.underlying84,
 a55 := Try.isAgg84,
 z55 := Try.sizeOf84,
 v55 := Try.zeroValue84,
 t66 := Try.underlying132,
 a66 := Try.isAgg132,
 z66 := Try.sizeOf132,
 v66 := Try.zeroValue132,
 t70 := Try.underlying136,
 a70 := Try.isAgg136,
 z70 := Try.sizeOf136,
 v70 := Try.zeroValue136,
 t76 := Try.underlying140,
 a76 := Try.isAgg140,
 z76 := Try.sizeOf140,
 v76 := Try.zeroValue140,
 t77 := Try.underlying141,
 a77 := Try.isAgg141,
 z77 := Try.sizeOf141,
 v77 := Try.zeroValue141}
def An : Go.Shelf.Ren := ⟨fun | 6 => 56 | 8 => 61 | 9 => 67 | 19 => 77 | 20 => 78 | 21 => 81 | 22 => 82 | 23 => 83 | 24 => 84 | 25 => 85 | 26 => 86 | 27 => 87 | 28 => 88 | 29 => 89 | 36 => 96 | 31 => 91 | 32 => 92 | 37 => 97 | 38 => 98 | 39 => 99 | 41 => 101 | n => n, fun | 27 => 54 | 29 => 9 | 3 => 3 | 32 => 104 | 26 => 54 | 0 => 0 | 44 => 123 | 46 => 84 | 4 => 4 | 36 => 116 | 35 => 115 | 41 => 120 | 5 => 5 | 9 => 9 | 53 => 132 | 57 => 136 | 63 => 140 | 64 => 141 | n => n, fun | n => n⟩
theorem Ax : Go.Proofs.SlLaysM.n6 Try.prog An := {
 mixed := by kernel_rfl,
 f6 := ⟨Try.f56.name, by decide, Try.func56.trans (aG some (by kernel_rfl))⟩,
 f8 := Try.func61.trans (aG some (by kernel_rfl)),
 f9 := ⟨Try.f67.name, by decide, Try.func67.trans (aG some (by kernel_rfl))⟩,
 f19 := Try.func77.trans (aG some (by kernel_rfl)),
 f20 := Try.func78.trans (aG some (by kernel_rfl)),
 f21 := ⟨Try.f81.name, by decide, Try.func81.trans (aG some (by kernel_rfl))⟩,
 f22 := ⟨Try.f82.name, by decide, Try.func82.trans (aG some (by kernel_rfl))⟩,
 f23 := ⟨Try.f83.name, by decide, Try.func83.trans (aG some (by kernel_rfl))⟩,
 f24 := ⟨Try.f84.name, by decide, Try.func84.trans (aG some (by kernel_rfl))⟩,
 f25 := ⟨Try.f85.name, by decide, Try.func85.trans (aG some (by kernel_rfl))⟩,
 f26 := ⟨Try.f86.name, by decide, Try.func86.trans (aG some (by kernel_rfl))⟩,
 f27 := ⟨Try.f87.name, by decide, Try.func87.trans (aG some (by kernel_rfl))⟩,
 f28 := ⟨Try.f88.name, by decide, Try.func88.trans (aG some (by kernel_rfl))⟩,
 f29 := ⟨Try.f89.name, by decide, Try.func89.trans (aG some (by kernel_rfl))⟩,
 f31 := Try.func91.trans (aG some (by kernel_rfl)),
 f32 := Try.func92.trans (aG some (by kernel_rfl)),
 f36 := ⟨Try.f96.name, by decide, Try.func96.trans (aG some (by kernel_rfl))⟩,
 f37 := ⟨Try.f97.name, by decide, Try.func97.trans (aG some (by kernel_rfl))⟩,
 f38 := ⟨Try.f98.name, by decide, Try.func98.trans (aG some (by kernel_rfl))⟩,
 f39 := ⟨Try.f99.name, by decide, Try.func99.trans (aG some (by kernel_rfl))⟩,
 f41 := ⟨Try.f101.name, by decide, Try.func101.trans (aG some (by kernel_rfl))⟩,
 t0 := dJ,
 a0 := Try.isAgg0,
 z0 := eF,
 v0 := dU,
 t3 := Try.underlying3,
 a3 := Try.isAgg3,
 z3 := Try.sizeOf3,
 v3 := Try.zeroValue3,
 t4 := eA,
 a4 := Try.isAgg4,
 z4 := Try.sizeOf4,
 v4 := Try.zeroValue4,
 t5 := Try.underlying5,
 a5 := Try.isAgg5,
 z5 := Try.sizeOf5,
 v5 := Try.zeroValue5,
 t9 := dt,
 a9 := et,
 z9 := ed,
 v9 := dy,
 t26 := en,
 a26 := Try.isAgg54,
 z26 := Try.sizeOf54,
 v26 := eB,
 t27 := en,
 a27 := Try.isAgg54,
 z27 := Try.sizeOf54,
 v27 := eB,
 t29 := dt,
 a29 := et,
 z29 := ed,
 v29 := dy,
 t32 := Try.underlying104,
 a32 := Try.isAgg104,
 z32 := Try.sizeOf104,
 v32 := Try.zeroValue104,
 t35 := Try.underlying115,
 a35 := Try.isAgg115,
 z35 := Try.sizeOf115,
 v35 := Try.zeroValue115,
 t36 := Try.underlying116,
 a36 := Try.isAgg116,
 z36 := Try.sizeOf116,
 v36 := Try.zeroValue116,
 t41 := Try.underlying120,
 a41 := Try.isAgg120,
 z41 := Try.sizeOf120,
 v41 := Try.zeroValue120,
 t44 := Try.underlying123,
 a44 := Try.isAgg123,
 z44 := Try.sizeOf123,
 v44 := Try.zeroValue123,
 t46 := Try.underlying84,
 a46 := Try.isAgg84,
 z46 := Try.sizeOf84,
 v46 := Try.zeroValue84,
 t53 := Try.underlying132,
 a53 := Try.isAgg132,
 z53 := Try.sizeOf132,
 v53 := Try.zeroValue132,
 t57 := Try.underlying136,
 a57 := Try.isAgg136,
 z57 := Try.sizeOf136,
 v57 := Try.zeroValue136,
 t63 := Try.underlying140,
 a63 := Try.isAgg140,
 z63 := Try.sizeOf140,
 v63 := Try.zeroValue140,
 t64 := Try.underlying141,
 a64 := Try.isAgg141,
 z64 := Try.sizeOf141,
 v64 := Try.zeroValue141}
def zY : Go.Shelf.Ren := ⟨fun | 7 => 34 | 10 => 57 | n => n, fun | 23 => 58 | 26 => 9 | 3 => 34 | 28 => 81 | 0 => 0 | 27 => 80 | 33 => 62 | 4 => 4 | n => n, fun | n => n⟩
theorem zd : Go.Proofs.SlLaysZ.n7 Try.prog zY := {
 mixed := by kernel_rfl,
 f7 := ⟨Try.f34.name, by decide, Try.func34.trans (aG some (by kernel_rfl))⟩,
 f10 := ⟨Try.f57.name, by decide, Try.func57.trans (aG some (by kernel_rfl))⟩,
 t0 := dJ,
 a0 := Try.isAgg0,
 z0 := eF,
 v0 := dU,
 t4 := eA,
 a4 := Try.isAgg4,
 z4 := Try.sizeOf4,
 v4 := Try.zeroValue4,
 t23 := Try.underlying58,
 a23 := Try.isAgg58,
 z23 := Try.sizeOf58,
 v23 := Try.zeroValue58,
 t26 := dt,
 a26 := et,
 z26 := ed,
 v26 := dy,
 t27 := Try.underlying80,
 a27 := Try.isAgg80,
 z27 := Try.sizeOf80,
 v27 := Try.zeroValue80,
 t28 := Try.underlying81,
 a28 := Try.isAgg81,
 z28 := Try.sizeOf81,
 v28 := Try.zeroValue81,
 t33 := Try.underlying62,
 a33 := Try.isAgg62,
 z33 := Try.sizeOf62,
 v33 := Try.zeroValue62}
def zQ : Go.Shelf.Ren := ⟨fun | 6 => 33 | 8 => 55 | 9 => 56 | 11 => 66 | 13 => 61 | 12 => 67 | 23 => 77 | 24 => 78 | 14 => 81 | 15 => 82 | 16 => 83 | 17 => 84 | 18 => 85 | 19 => 86 | 20 => 87 | 21 => 88 | 22 => 89 | 25 => 96 | 26 => 91 | 27 => 92 | 28 => 97 | 29 => 98 | 30 => 99 | 31 => 101 | n => n, fun | 26 => 9 | 28 => 81 | 24 => 54 | 0 => 0 | 3 => 3 | 37 => 104 | 48 => 123 | 50 => 84 | 4 => 4 | 40 => 116 | 39 => 115 | 45 => 120 | 5 => 5 | 9 => 9 | 51 => 132 | 55 => 136 | 57 => 140 | 58 => 141 | 33 => 62 | n => n, fun | n => n⟩
theorem zI : Go.Proofs.SlLaysZ.n6 Try.prog zQ := {
 mixed := by kernel_rfl,
 f6 := ⟨Try.f33.name, by decide, Try.func33.trans (aG some (by kernel_rfl))⟩,
 f8 := ⟨Try.f55.name, by decide, Try.func55.trans (aG some (by kernel_rfl))⟩,
 f11 := ⟨Try.f66.name, by decide, Try.func66.trans (aG some (by kernel_rfl))⟩,
 t0 := dJ,
 a0 := Try.isAgg0,
 z0 := eF,
 v0 := dU,
 t24 := en,
 a24 := Try.isAgg54,
 z24 := Try.sizeOf54,
 v24 := eB,
 t26 := dt,
 a26 := et,
 z26 := ed,
 v26 := dy,
 t28 := Try.underlying81,
 a28 := Try.isAgg81,
 z28 := Try.sizeOf81,
 v28 := Try.zeroValue81,
 i26 := by kernel_rfl}
end Go.Proofs.Ytcafmokjkjcomaa
namespace Go.Proofs.Ytcafmokjkjcomaa
open Go.IntKind renaming wrap → wi0
open Go.RowKit
set_option maxRecDepth 10000
noncomputable section
structure fg where
 eJ : ByteArray
 eK : ByteArray
def fz (x : fg) : List Value := [.string x.eJ, .string x.eK]
def gB (x y : fg) : Bool := (fF x.eJ y.eJ) && ((fF x.eK y.eK) && true)
theorem iX {x y : fg} : gB x y = true ↔ x = y := by
 cases x; cases y; simp [gB, gr]
theorem lh (x : fg) : ∀ u ∈ fz x, u.oneCell' = true := by
 intro u hu
 simp only [fz, aB, bc, cy] at hu
 rcases hu with rfl | rfl <;> rfl
structure eH where
 Kind : Int
 Head : fg
 fa : ByteArray
 B : fg
 C : fg
 eX : ByteArray
def eO (x : eH) : List Value := [.int .i64 x.Kind, .string x.Head.eJ, .string x.Head.eK, .string x.fa, .string x.B.eJ, .string x.B.eK, .string x.C.eJ, .string x.C.eK, .string x.eX]
def iJ (x y : eH) : Bool := (x.Kind == y.Kind) && ((gB x.Head y.Head) && ((fF x.fa y.fa) && ((gB x.B y.B) && ((gB x.C y.C) && ((fF x.eX y.eX) && true)))))
theorem oV {x y : eH} : iJ x y = true ↔ x = y := by
 cases x; cases y; simp [iJ, gr, iX]
theorem gO (x : eH) : (eO x).length = 9 := rfl
theorem iT (x : eH) : ∀ u ∈ eO x, u.oneCell' = true := by
 intro u hu
 simp only [eO, aB, bc, cy] at hu
 rcases hu with rfl | rfl | rfl | rfl | rfl | rfl | rfl | rfl | rfl <;> rfl
structure Key where
 fa : ByteArray
 Key : List Int
structure eY where
 eH : eH
 Tag : List Int
structure fG where
 m : List (ByteArray × (List Int))
def gC (a0 : ByteArray) (a : Int) : Option Int :=
 some (lY a0 a)
def iQ (a0 : ByteArray) (a : Int) : Option Int :=
 ((gC a0 a).bind fun c => some c)
def kx  : List Int → Option Bool
 | [] => some true
 | d :: a => ((iQ (⟨#[97, 98, 99, 100, 101, 102, 103, 104, 105, 106, 107, 108, 109, 110, 111, 112, 113, 114, 115, 116, 117, 118, 119, 120, 121, 122, 48, 49, 50, 51, 52, 53, 54, 55, 56, 57, 45]⟩ : ByteArray) d).bind fun c => (if (decide (c < 0)) then some false else (kx a)))
def oQ (a0 : ByteArray) : Option Bool :=
 ((pv a0).bind fun a => kx a)
def ib (a0 : ByteArray) : Option Bool :=
 ((if (decide ((a0.size : Int) ≥ 1)) then some (decide ((a0.size : Int) ≤ 16)) else some false).bind fun x2 => ((if x2 then ((nf a0 0).bind fun a => ((iQ (⟨#[97, 98, 99, 100, 101, 102, 103, 104, 105, 106, 107, 108, 109, 110, 111, 112, 113, 114, 115, 116, 117, 118, 119, 120, 121, 122]⟩ : ByteArray) (a.toNat : Int)).bind fun d => some (decide (d ≥ 0)))) else some false).bind fun g => ((if g then ((oQ a0).bind fun c => some c) else some false).bind fun h => some h)))
def gp (a0 : List Int) : Option (List Int) :=
 ((kN 1 ([]) a0).bind fun a => some a)
def jY  : List Key → (List (ByteArray × (List Int))) → Option ((Option fG) × Int)
 | [], c => some ((some (⟨c⟩ : fG)), 0)
 | a :: d, c => ((ib a.fa).bind fun h => (if (!h) then some (none, 30) else ((if (decide ((a.Key.length : Int) < 1)) then some true else some (decide ((a.Key.length : Int) > 32))).bind fun j => (if j then some (none, 21) else (if (gL fF c a.fa).isSome then some (none, 41) else ((gp a.Key).bind fun i => ((uD fF c a.fa i).bind fun g => (jY d g))))))))
def lR (a0 : List Key) : Option ((Option fG) × Int) :=
 jY a0 ([])
def iA (a0 : fg) : Option Bool :=
 ((ib a0.eJ).bind fun d => ((if d then ((ib a0.eK).bind fun a => some a) else some false).bind fun c => some c))
def ir (a0 a : ByteArray) : Option Int :=
 some (kk a0 a)
def kw (a0 a : ByteArray) : Option Int :=
 ((ir a0 a).bind fun c => some c)
def lu  : List Int → Option Int
 | [] => some 0
 | a :: c => (if (a != 0) then some a else (lu c))
def od (a0 : List Int) : Option Int :=
 lu a0
def lQ (a0 g : fg) : Option Int :=
 ((kw a0.eJ g.eJ).bind fun a => ((kw a0.eK g.eK).bind fun c => ((od ([a, c])).bind fun d => some d)))
def iC (a0 : eH) : Option Bool :=
 ((iA a0.Head).bind fun A => (((if (a0.Kind == 1) then ((if A then ((ib a0.fa).bind fun c => some c) else some false).bind fun q => some (Sum.inr (q, (⟨a0.Kind, a0.Head, a0.fa, (⟨zS, zS⟩ : fg), (⟨zS, zS⟩ : fg), zS⟩ : eH)))) else (if (a0.Kind == 2) then ((if A then ((iA a0.B).bind fun d => some d) else some false).bind fun t => some (Sum.inr (t, (⟨a0.Kind, a0.Head, zS, a0.B, (⟨zS, zS⟩ : fg), zS⟩ : eH)))) else (if (a0.Kind == 3) then ((if A then ((iA a0.B).bind fun h => some h) else some false).bind fun u => ((if u then some (fF a0.B.eJ a0.Head.eJ) else some false).bind fun v => ((if v then ((ib a0.eX).bind fun g => some g) else some false).bind fun w => some (Sum.inr (w, (⟨a0.Kind, a0.Head, zS, a0.B, (⟨zS, zS⟩ : fg), a0.eX⟩ : eH)))))) else (if (a0.Kind == 4) then ((if A then ((iA a0.B).bind fun k => some k) else some false).bind fun x => ((if x then ((iA a0.C).bind fun j => some j) else some false).bind fun y => ((if y then ((lQ a0.B a0.C).bind fun i => some (decide (i < 0))) else some false).bind fun z => some (Sum.inr (z, (⟨a0.Kind, a0.Head, zS, a0.B, a0.C, zS⟩ : eH)))))) else some (Sum.inl false))))) : Option (Bool ⊕ (Bool × eH))).bind fun s => match s with | .inl a => some a | .inr (n, o) => ((if n then some (iJ o a0) else some false).bind fun p => some p)))
def jb (a0 : Option fG) (c : eH) : Option ((List Int) × Int) :=
 (if a0.isNone then some ([], 1) else ((iC c).bind fun d => (if (!d) then some ([], 11) else (a0.bind fun a => (if (!((gL fF a.m c.Head.eJ).isSome)) then some ([], 21) else some (((gL fF a.m c.Head.eJ).getD []), 0))))))
def gZ  : Nat → Int → (List Int) → Option (Bool × (List Int))
 | 0, _, _ => none
 | h + 1, a, d => (if (decide (a ≥ 128)) then ((kN 1 d ([(IntKind.u8.wrap (BitVec.ofInt (IntKind.bits .u8) (IntKind.u8.wrap a) ||| BitVec.ofInt (IntKind.bits .u8) 128).toNat)])).bind fun g => (gZ h (Int.fdiv a (2 ^ min (Int.toNat 7) (IntKind.bits .i64))) g)) else ((kN 1 d ([(IntKind.u8.wrap a)])).bind fun c => some (true, c)))
def iP (a : List Int) (c : Int) : Option (Bool × (List Int)) :=
 (if (decide (c < 0)) then some (false, a) else gZ iu c a)
def jw (a c : List Int) : Option (Bool × (List Int)) :=
 (if (decide ((c.length : Int) > 2048)) then some (false, a) else ((iP a (c.length : Int)).bind fun g => ((kN 1 g.2 c).bind fun d => some (true, d))))
def jM (a : List Int) (i : ByteArray) : Option (Bool × (List Int)) :=
 ((ib i).bind fun j => (((if j then ((pv i).bind fun g => ((jw a g).bind fun c => some (c.1, c.2))) else some (false, a)) : Option (Bool × (List Int))).bind fun (h, d) => some (h, d)))
def iz (a : List Int) (h : fg) : Option (Bool × (List Int)) :=
 ((iA h).bind fun n => (((if n then ((jM a h.eJ).bind fun g => some (g.1, g.2)) else some (false, a)) : Option (Bool × (List Int))).bind fun (j, c) => (((if j then ((jM c h.eK).bind fun d => some (d.1, d.2)) else some (false, c)) : Option (Bool × (List Int))).bind fun (k, i) => some (k, i))))
def iq (a : List Int) : Option (List Int) :=
 ((gp a).bind fun c => some c)
def ic (a0 : eH) : Option (List Int) :=
 ((iC a0).bind fun o => (if (!o) then some [] else ((iP ([]) a0.Kind).bind fun p => ((iz p.2 a0.Head).bind fun a => (((if (a0.Kind == 1) then ((jM a.2 a0.fa).bind fun g => some g.2) else (if (a0.Kind == 2) then ((iz a.2 a0.B).bind fun h => some h.2) else (if (a0.Kind == 3) then ((iz a.2 a0.B).bind fun i => ((jM i.2 a0.eX).bind fun j => some j.2)) else (if (a0.Kind == 4) then ((iz a.2 a0.B).bind fun k => ((iz k.2 a0.C).bind fun n => some n.2)) else some a.2)))) : Option (List Int)).bind fun c => ((iq c).bind fun d => some d))))))
def iU (a0 : List Int) : Option Bool :=
 ((if (decide ((a0.length : Int) ≥ 1)) then some (decide ((a0.length : Int) ≤ 32)) else some false).bind fun x2 => some x2)
def lF  : List Int → Int → Option Int
 | [], a => some a
 | d :: c, a => (lF c (IntKind.u64.wrap ((IntKind.u64.wrap (BitVec.ofInt (IntKind.bits .u64) a ^^^ BitVec.ofInt (IntKind.bits .u64) (IntKind.u64.wrap d)).toNat) * 1099511628211)))
def lJ  : List (List Int) → Int → Option Int
 | [], a => some a
 | d :: c, a => ((lF d a).bind fun g => (lJ c g))
def qg (a0 : List (List Int)) : Option Int :=
 lJ a0 14695981039346656037
def jr (c : Int) : List Int → Nat → (List Int) → Option (List Int)
 | [], _, a => some a
 | h :: d, i68, a => ((jS (decide (0 ≤ (wi0 .i64 (8 * (wi0 .i64 (7 - (i68 : Int)))))))).bind fun _ => ((ju a (i68 : Int)).bind fun g => (jr c d (i68 + 1) (a.set (Int.toNat (i68 : Int)) (IntKind.u8.wrap (Int.fdiv c (2 ^ min (Int.toNat (wi0 .i64 (8 * (wi0 .i64 (7 - (i68 : Int)))))) (IntKind.bits .u64))))))))
def lP (a0 d : List Int) : Option (List Int) :=
 ((iU a0).bind fun g => (if (!g) then some [] else ((qg ([[(IntKind.u8.wrap (a0.length : Int))], a0, d, a0])).bind fun c => ((pt 1 0 8).bind fun a => jr c a 0 a))))
def gD (a0 : Option fG) (a : eH) : Option (eY × Int) :=
 ((jb a0 a).bind fun c => (if (c.2 != 0) then some ((⟨(⟨0, (⟨zS, zS⟩ : fg), zS, (⟨zS, zS⟩ : fg), (⟨zS, zS⟩ : fg), zS⟩ : eH), []⟩ : eY), c.2) else ((ic a).bind fun d => ((lP c.1 d).bind fun g => some ((⟨a, g⟩ : eY), 0)))))
def mq (a0 a : List Int) : Option Bool :=
 some (fF (jU a0) (jU a))
def lV (a0 g a2 : List Int) : Option Bool :=
 ((iU a0).bind fun h => ((if h then ((lP a0 g).bind fun a => ((mq a a2).bind fun c => some c)) else some false).bind fun d => some d))
def fK (a0 : Option fG) (g : eY) : Option Int :=
 ((jb a0 g.eH).bind fun h => ((if (h.2 == 0) then ((ic g.eH).bind fun a => ((lV h.1 a g.Tag).bind fun c => some (!c))) else some false).bind fun d => (if d then some 20 else some h.2)))
def iN (a0 : List eH) : Option (List eH) :=
 ((kN 136 ([]) a0).bind fun a => some a)
def gG (f1 : eH → Option Bool) : List eH → Nat → Option Int
 | [], _ => some (-1)
 | d :: a, i35 => ((f1 d).bind fun c => (if c then some (i35 : Int) else (gG f1 a (i35 + 1))))
def jV (a0 : List eH) (f1 : eH → Option Bool) : Option Int :=
 gG f1 a0 0
def fW (f1 : eH → Option Bool) : Nat → (List eH) → Int → Int → Option (List eH)
 | 0, _, _, _ => none
 | n321 + 1, c, a, d => (if (decide (d < (c.length : Int))) then ((((ju c d).bind fun g => ((f1 g).bind fun i => (if (!i) then ((ju c a).bind fun k => some ((c.set (Int.toNat a) g), (wi0 .i64 (a + 1)))) else some (c, a)))) : Option ((List eH) × Int)).bind fun (h, j) => (fW f1 n321 h j (wi0 .i64 (d + 1)))) else ((jS (decide (0 ≤ a) && decide (a ≤ (c.length : Int)))).bind fun _ => ((jS (decide (0 ≤ a) && decide (a ≤ ((je c (Int.toNat a) (⟨0, (⟨zS, zS⟩ : fg), zS, (⟨zS, zS⟩ : fg), (⟨zS, zS⟩ : fg), zS⟩ : eH)).length : Int)))).bind fun _ => some ((je c (Int.toNat a) (⟨0, (⟨zS, zS⟩ : fg), zS, (⟨zS, zS⟩ : fg), (⟨zS, zS⟩ : fg), zS⟩ : eH)).take (Int.toNat a)))))
def iD (a0 : List eH) (f1 : eH → Option Bool) : Option (List eH) :=
 ((jV a0 f1).bind fun a => (if (a == (-1)) then some a0 else fW f1 iu a0 a (wi0 .i64 (a + 1))))
def mr (a0 : eH) : Option Bool :=
 ((iC a0).bind fun a => some (!a))
def oM (a0 a : List Int) : Option Int :=
 some (nt a0 a)
def jG (a0 g : eH) : Option Int :=
 ((ic a0).bind fun a => ((ic g).bind fun c => ((oM a c).bind fun d => some d)))
def gv (c : Int) : Nat → (List eH) → Int → Int → Option ((List eH) × Int)
 | 0, _, _, _ => none
 | i + 1, a, d, g => (if (decide (g < ((a.length - (Int.toNat c) : Nat) : Int))) then ((((ju (a.drop (Int.toNat c)) g).bind fun k => ((ju (a.drop (Int.toNat c)) (wi0 .i64 (g - 1))).bind fun n => (if (!(iJ k n)) then ((ju (a.drop (Int.toNat c)) g).bind fun o => ((ju a d).bind fun p => some ((a.set (Int.toNat d) o), (wi0 .i64 (d + 1))))) else some (a, d)))) : Option ((List eH) × Int)).bind fun (h, j) => (gv c i h j (wi0 .i64 (g + 1)))) else some (a, d))
def gw (a0 : List eH) : Nat → Int → Option (List eH)
 | 0, _ => none
 | g + 1, a => (if (decide (a < (a0.length : Int))) then ((ju a0 a).bind fun h => ((ju a0 (wi0 .i64 (a - 1))).bind fun i => (if (iJ h i) then ((jS (decide (0 ≤ a) && decide (a ≤ (a0.length : Int)))).bind fun _ => ((gv a iu a0 a 1).bind fun (d, c) => ((jS (decide (0 ≤ c) && decide (c ≤ (d.length : Int)))).bind fun _ => ((jS (decide (0 ≤ c) && decide (c ≤ ((je d (Int.toNat c) (⟨0, (⟨zS, zS⟩ : fg), zS, (⟨zS, zS⟩ : fg), (⟨zS, zS⟩ : fg), zS⟩ : eH)).length : Int)))).bind fun _ => some ((je d (Int.toNat c) (⟨0, (⟨zS, zS⟩ : fg), zS, (⟨zS, zS⟩ : fg), (⟨zS, zS⟩ : fg), zS⟩ : eH)).take (Int.toNat c)))))) else (gw a0 g (wi0 .i64 (a + 1)))))) else some a0)
def jq (a0 : List eH) : Option (List eH) :=
 (if (decide ((a0.length : Int) < 2)) then some a0 else gw a0 iu 1)
def mR (a0 : List eH) : Option (List eH) :=
 ((iN a0).bind fun g => ((iD g (fun (x : eH) => mr x)).bind fun a => ((oB (fun (x : (eH × eH)) => jG x.1 x.2) a).bind fun c => ((jq c).bind fun d => some d))))
def fZ (a0 : Option fG) : List eY → (List eH) → Option (List eH)
 | [], a => ((mR a).bind fun h => some h)
 | i :: c, a => ((fK a0 i).bind fun g => (if (g == 0) then ((kN 136 a ([i.eH])).bind fun d => (fZ a0 c d)) else (fZ a0 c a)))
def iG (a0 : Option fG) (a : List eY) : Option (List eH) :=
 fZ a0 a ([])
def jO  : List eH → Int → Option Int
 | [], c => some c
 | a :: d, c => (jO d (wi0 .i64 (c + (wi0 .i64 ((wi0 .i64 ((wi0 .i64 ((wi0 .i64 ((wi0 .i64 ((wi0 .i64 ((wi0 .i64 ((wi0 .i64 (20 + (a.Head.eJ.size : Int))) + (a.Head.eK.size : Int))) + (a.fa.size : Int))) + (a.B.eJ.size : Int))) + (a.B.eK.size : Int))) + (a.C.eJ.size : Int))) + (a.C.eK.size : Int))) + (a.eX.size : Int))))))
def mo (a0 : List eH) : Option Int :=
 jO a0 0
def jP  : List eY → Int → Option Int
 | [], a => some a
 | c :: d, a => ((mo ([c.eH])).bind fun g => (jP d (wi0 .i64 (a + (wi0 .i64 (g + (c.Tag.length : Int)))))))
def iS (h : List eY) : List Key → Int → Option Int
 | [], a => ((jP h a).bind fun c => some c)
 | d :: g, a => (iS h g (wi0 .i64 (a + (wi0 .i64 ((wi0 .i64 (10 + (d.fa.size : Int))) + (d.Key.length : Int))))))
def nH (a0 : List Key) (a : List eY) : Option Int :=
 iS a a0 0
def jJ (a0 : ByteArray) : Nat → Int → Option Bool
 | 0, _ => none
 | d + 1, c => (if (decide (c < (a0.size : Int))) then ((nf a0 c).bind fun a => ((if (decide ((a.toNat : Int) < 97)) then some true else some (decide ((a.toNat : Int) > 122))).bind fun g => ((if g then ((if (decide ((a.toNat : Int) < 48)) then some true else some (decide ((a.toNat : Int) > 57))).bind fun j => some j) else some false).bind fun h => ((if h then some ((a.toNat : Int) != 45) else some false).bind fun i => (if i then some false else (jJ a0 d (wi0 .i64 (c + 1)))))))) else some true)
def kc (a0 : ByteArray) : Option Bool :=
 ((if (fF a0 zS) then some true else some (decide ((a0.size : Int) > 16))).bind fun x2 => ((if x2 then some true else ((nf a0 0).bind fun c => some (decide ((c.toNat : Int) < 97)))).bind fun d => ((if d then some true else ((nf a0 0).bind fun a => some (decide ((a.toNat : Int) > 122)))).bind fun g => (if g then some false else jJ a0 iu 0))))
def kY (a0 : fg) : Option Bool :=
 ((kc a0.eJ).bind fun d => ((if d then ((kc a0.eK).bind fun a => some a) else some false).bind fun c => some c))
def oq (a0 a : fg) : Option Bool :=
 ((if (nM a0.eJ a.eJ) then some true else ((if (fF a0.eJ a.eJ) then some (nM a0.eK a.eK) else some false).bind fun d => some d)).bind fun c => some c)
def lf (a0 : eH) : Option Bool :=
 ((kY a0.Head).bind fun v => (if (!v) then some false else (if (a0.Kind == 1) then ((kc a0.fa).bind fun i => ((if i then some (gB a0.B (⟨zS, zS⟩ : fg)) else some false).bind fun k => ((if k then some (gB a0.C (⟨zS, zS⟩ : fg)) else some false).bind fun n => ((if n then some (fF a0.eX zS) else some false).bind fun o => some o)))) else ((if (!(fF a0.fa zS)) then some true else ((kY a0.B).bind fun d => some (!d))).bind fun p => (if p then some false else (if (a0.Kind == 2) then ((if (gB a0.C (⟨zS, zS⟩ : fg)) then some (fF a0.eX zS) else some false).bind fun q => some q) else (if (a0.Kind == 3) then ((if (gB a0.C (⟨zS, zS⟩ : fg)) then some (fF a0.B.eJ a0.Head.eJ) else some false).bind fun s => ((if s then ((kc a0.eX).bind fun j => some j) else some false).bind fun t => some t)) else ((if (a0.Kind == 4) then some (fF a0.eX zS) else some false).bind fun u => ((if u then ((kY a0.C).bind fun c => some c) else some false).bind fun g => ((if g then ((oq a0.B a0.C).bind fun a => some a) else some false).bind fun h => some h))))))))))
def mc  : Nat → Int → ByteArray → Option ByteArray
 | 0, _, _ => none
 | n45 + 1, a, c => (if (decide (a ≥ 128)) then ((mB c (jU ([(IntKind.u8.wrap (wi0 .i64 (128 + (Int.tmod a 128))))]))).bind fun d => (mc n45 (wi0 .i64 (Int.tdiv a 128)) d)) else ((mB c (jU ([(IntKind.u8.wrap a)]))).bind fun g => some g))
def ma (a0 : Int) : Option ByteArray :=
 mc iu a0 zS
def kF (a0 : ByteArray) : Option ByteArray :=
 ((ma (a0.size : Int)).bind fun a => ((mB a a0).bind fun c => some c))
def lg (a0 : fg) : Option ByteArray :=
 ((kF a0.eJ).bind fun a => ((kF a0.eK).bind fun c => ((mB a c).bind fun d => some d)))
def la (a0 : eH) : Option ByteArray :=
 ((ma a0.Kind).bind fun g => ((lg a0.Head).bind fun h => ((mB g h).bind fun a => (if (a0.Kind == 1) then ((kF a0.fa).bind fun i => ((mB a i).bind fun o => some o)) else ((lg a0.B).bind fun j => ((mB a j).bind fun c => (((if (a0.Kind == 3) then ((kF a0.eX).bind fun n => ((mB c n).bind fun q => some q)) else some c) : Option ByteArray).bind fun d => (((if (a0.Kind == 4) then ((lg a0.C).bind fun k => ((mB d k).bind fun p => some p)) else some d) : Option ByteArray).bind fun s => some s))))))))
def kA (a0 : ByteArray) : Nat → Int → Int → Option Int
 | 0, _, _ => none
 | n38 + 1, c, a => (if (decide (a < (a0.size : Int))) then ((nf a0 a).bind fun d => (kA a0 n38 (IntKind.u64.wrap ((IntKind.u64.wrap (BitVec.ofInt (IntKind.bits .u64) c ^^^ BitVec.ofInt (IntKind.bits .u64) (IntKind.u64.wrap (d.toNat : Int))).toNat) * 1099511628211)) (wi0 .i64 (a + 1)))) else some c)
def oX (a0 : ByteArray) : Option Int :=
 kA a0 iu 14695981039346656037 0
def iH  : Nat → Int → ByteArray → Int → Option ByteArray
 | 0, _, _, _ => none
 | g + 1, a, c, d => (if (decide (d < 8)) then ((mB (jU ([(IntKind.u8.wrap (Int.tmod a 256))])) c).bind fun h => (iH g (IntKind.u64.wrap (Int.tdiv a 256)) h (wi0 .i64 (d + 1)))) else some c)
def oa (a0 a : ByteArray) : Option ByteArray :=
 ((mB (jU ([(IntKind.u8.wrap (a0.size : Int))])) a0).bind fun d => ((mB d a).bind fun g => ((mB g a0).bind fun h => ((oX h).bind fun c => iH iu c zS 0))))
def mU (a0 c : eY) : Option Bool :=
 ((if (iJ a0.eH c.eH) then some (fF (jU a0.Tag) (jU c.Tag)) else some false).bind fun a => some a)
def lN (d : eH) : List Key → Option (ByteArray × Int)
 | [] => some (zS, 21)
 | a :: c => (if (fF a.fa d.Head.eJ) then some ((jU a.Key), 0) else (lN d c))
def qS (a0 : List Key) (a : eH) : Option (ByteArray × Int) :=
 ((lf a).bind fun c => (if (!c) then some (zS, 11) else lN a a0))
def nF (a0 : List Key) (a : eY) : Option Int :=
 ((qS a0 a.eH).bind fun c => ((if (c.2 == 0) then ((la a.eH).bind fun d => ((oa c.1 d).bind fun g => some (!(fF g (jU a.Tag))))) else some false).bind fun h => (if h then some 20 else some c.2)))
def lb (a0 : eH) : Option ByteArray :=
 ((lf a0).bind fun a => (if (!a) then some zS else ((la a0).bind fun c => some c)))
def kf (a0 d : eH) : Option Int :=
 ((lb a0).bind fun a => ((lb d).bind fun c => (if (nM a c) then some (-1) else (if (!(nM a c || fF a c)) then some 1 else some 0))))
def jH (a : List eH) : List eH → Bool → eH → Option (Bool × eH)
 | [], d, g => some (d, g)
 | c :: h, d, g => ((lf c).bind fun i => ((if i then ((if ((a.length : Int) == 0) then some true else ((ju a (wi0 .i64 ((a.length : Int) - 1))).bind fun s => ((kf s c).bind fun k => some (decide (k < 0))))).bind fun q => some q) else some false).bind fun n => ((if n then ((if (!d) then some true else ((kf c g).bind fun j => some (decide (j < 0)))).bind fun p => some p) else some false).bind fun o => (if o then (jH a h true c) else (jH a h d g)))))
def lU (a0 : List eH) : Nat → (List eH) → Option (List eH)
 | 0, _ => none
 | d + 1, a => ((jH a a0 false (⟨0, (⟨zS, zS⟩ : fg), zS, (⟨zS, zS⟩ : fg), (⟨zS, zS⟩ : fg), zS⟩ : eH)).bind fun (g, h) => (if (!g) then some a else ((kN 136 a ([h])).bind fun c => (lU a0 d c))))
def oY (a0 : List eH) : Option (List eH) :=
 lU a0 iu ([])
def jm (a0 : List Key) : List eY → (List eH) → Option (List eH)
 | [], a => ((oY a).bind fun h => some h)
 | i :: c, a => ((nF a0 i).bind fun g => (if (g == 0) then ((kN 136 a ([i.eH])).bind fun d => (jm a0 c d)) else (jm a0 c a)))
def tR (a0 : List Key) (a : List eY) : Option (List eH) :=
 jm a0 a ([])
structure eP where
 b : List Int
 fH : Bool
def mz (a c : List Int) : Option (Bool × (List Int)) :=
 ((kN 1 a c).bind fun d => some (true, d))
def lD (a : List Int) (g : eY) : Option (Bool × (List Int)) :=
 ((iC g.eH).bind fun k => ((if (!k) then some true else some ((g.Tag.length : Int) != 8)).bind fun n => (if n then some (false, a) else ((ic g.eH).bind fun i => ((mz a i).bind fun c => (((if c.1 then ((jw c.2 g.Tag).bind fun d => some (d.1, d.2)) else some (false, c.2)) : Option (Bool × (List Int))).bind fun (j, h) => some (j, h)))))))
def jv (c : List Int) (a : Bool) : Option Bool :=
 some a
def fA (a0 : eP) (a : Int) : Option (Int ⊕ Unit) :=
 ((if (!a0.fH) then some (a != 0) else some false).bind fun x2 => (if x2 then some (Sum.inl a) else some (Sum.inr ())))
def jz (a0 : eP) (q : Int) : Option (Int ⊕ (Int × eP)) :=
 (((if (q == 9) then ((fA a0 11).bind fun n => match n with | .inl h => some (Sum.inl (Sum.inl h)) | .inr v => some (Sum.inr ())) else some (Sum.inr ())) : Option ((Int ⊕ (Int × eP)) ⊕ Unit)).bind fun s => match s with | .inl i => some i | .inr _ => (((if ((a0.b.length : Int) == 0) then ((fA a0 10).bind fun k => match k with | .inl d => some (Sum.inl (Sum.inl d)) | .inr u => some (Sum.inr ())) else some (Sum.inr ())) : Option ((Int ⊕ (Int × eP)) ⊕ Unit)).bind fun s => match s with | .inl g => some g | .inr _ => ((ju a0.b 0).bind fun p => ((jS (decide (0 ≤ 1) && decide (1 ≤ (a0.b.length : Int)))).bind fun _ => ((((if (p == 0) then some (decide (q > 0)) else some false).bind fun o => (if o then ((fA (⟨(a0.b.drop (Int.toNat 1)), a0.fH⟩ : eP) 11).bind fun j => match j with | .inl a => some (Sum.inl (Sum.inl a)) | .inr t => some (Sum.inr ())) else some (Sum.inr ()))) : Option ((Int ⊕ (Int × eP)) ⊕ Unit)).bind fun s => match s with | .inl c => some c | .inr _ => some (Sum.inr (p, (⟨(a0.b.drop (Int.toNat 1)), a0.fH⟩ : eP))))))))
def fS (p : Int) : Nat → Int → Int → (List Int) → Bool → Option (Int ⊕ (Int × eP))
 | 0, _, _, _, _ => none
 | n161 + 1, d, c, g, o => ((jz (⟨g, o⟩ : eP) c).bind fun n => match n with | .inl h => some (Sum.inl h) | .inr a => ((jS (decide (0 ≤ (wi0 .i64 (7 * c))))).bind fun _ => (if (decide (a.1 < 128)) then (((if (decide ((wi0 .i64 (BitVec.ofInt (IntKind.bits .i64) d ||| BitVec.ofInt (IntKind.bits .i64) (wi0 .i64 ((wi0 .i64 (IntKind.u8.wrap (BitVec.ofInt (IntKind.bits .u8) a.1 &&& BitVec.ofInt (IntKind.bits .u8) 127).toNat)) * 2 ^ min (Int.toNat (wi0 .i64 (7 * c))) (IntKind.bits .i64)))).toNat) > p)) then ((fA a.2 12).bind fun k => match k with | .inl i => some (Sum.inl (Sum.inl i)) | .inr q => some (Sum.inr ())) else some (Sum.inr ())) : Option ((Int ⊕ (Int × eP)) ⊕ Unit)).bind fun s => match s with | .inl j => some j | .inr _ => some (Sum.inr ((wi0 .i64 (BitVec.ofInt (IntKind.bits .i64) d ||| BitVec.ofInt (IntKind.bits .i64) (wi0 .i64 ((wi0 .i64 (IntKind.u8.wrap (BitVec.ofInt (IntKind.bits .u8) a.1 &&& BitVec.ofInt (IntKind.bits .u8) 127).toNat)) * 2 ^ min (Int.toNat (wi0 .i64 (7 * c))) (IntKind.bits .i64)))).toNat), a.2))) else (fS p n161 (wi0 .i64 (BitVec.ofInt (IntKind.bits .i64) d ||| BitVec.ofInt (IntKind.bits .i64) (wi0 .i64 ((wi0 .i64 (IntKind.u8.wrap (BitVec.ofInt (IntKind.bits .u8) a.1 &&& BitVec.ofInt (IntKind.bits .u8) 127).toNat)) * 2 ^ min (Int.toNat (wi0 .i64 (7 * c))) (IntKind.bits .i64)))).toNat) (wi0 .i64 (c + 1)) ((a.2).b) ((a.2).fH)))))
def ie (a0 : eP) (a : Int) : Option (Int ⊕ (Int × eP)) :=
 ((jv a0.b a0.fH).bind fun c => (if c then some (Sum.inr (0, a0)) else fS a iu 0 0 a0.b a0.fH))
def iE (a0 : eP) (p : Int) : Option (Int ⊕ ((List Int) × eP)) :=
 ((jv a0.b a0.fH).bind fun q => (if q then some (Sum.inr ([], a0)) else ((ie a0 9223372036854775807).bind fun j => match j with | .inl k => some (Sum.inl k) | .inr a => (((if (decide (a.1 > p)) then ((fA a.2 12).bind fun h => match h with | .inl c => some (Sum.inl (Sum.inl c)) | .inr t => some (Sum.inr ())) else (if (decide (a.1 > (((a.2).b).length : Int))) then ((fA a.2 10).bind fun i => match i with | .inl d => some (Sum.inl (Sum.inl d)) | .inr o => some (Sum.inr ())) else some (Sum.inr ()))) : Option ((Int ⊕ ((List Int) × eP)) ⊕ Unit)).bind fun s => match s with | .inl g => some g | .inr _ => ((jS (decide (0 ≤ a.1) && decide (a.1 ≤ (((a.2).b).length : Int)))).bind fun _ => ((gp (((a.2).b).take (Int.toNat a.1))).bind fun n => ((jS (decide (0 ≤ a.1) && decide (a.1 ≤ (((a.2).b).length : Int)))).bind fun _ => some (Sum.inr (n, (⟨(((a.2).b).drop (Int.toNat a.1)), (a.2).fH⟩ : eP))))))))))
def jR (a0 : eP) : Option (Int ⊕ (ByteArray × eP)) :=
 ((iE a0 16).bind fun i => match i with | .inl c => some (Sum.inl c) | .inr a => ((ib (jU a.1)).bind fun g => (if (!g) then ((fA a.2 30).bind fun h => match h with | .inl d => some (Sum.inl d) | .inr j => some (Sum.inr (zS, a.2))) else some (Sum.inr ((jU a.1), a.2)))))
def jj (a0 : eP) : Option (Int ⊕ (fg × eP)) :=
 ((jR a0).bind fun h => match h with | .inl c => some (Sum.inl c) | .inr i => ((jR i.2).bind fun g => match g with | .inl d => some (Sum.inl d) | .inr a => some (Sum.inr ((⟨i.1, a.1⟩ : fg), a.2))))
def mO (a0 : eP) : Option (Int ⊕ (eH × eP)) :=
 ((ie a0 9223372036854775807).bind fun Q => match Q with | .inl T => some (Sum.inl T) | .inr c => ((((if (decide (c.1 < 1)) then some true else some (decide (c.1 > 4))).bind fun R => (if R then ((fA c.2 11).bind fun P => match P with | .inl A => some (Sum.inl (Sum.inl A)) | .inr Y => some (Sum.inr ())) else some (Sum.inr ()))) : Option ((Int ⊕ (eH × eP)) ⊕ Unit)).bind fun s => match s with | .inl D => some D | .inr _ => ((jj c.2).bind fun O => match O with | .inl U => some (Sum.inl U) | .inr a => (((if (c.1 == 1) then ((jR a.2).bind fun G => match G with | .inl t => some (Sum.inl (Sum.inl t)) | .inr g => some (Sum.inr ((⟨c.1, a.1, g.1, (⟨zS, zS⟩ : fg), (⟨zS, zS⟩ : fg), zS⟩ : eH), ((g.2).b), ((g.2).fH)))) else (if (c.1 == 2) then ((jj a.2).bind fun I => match I with | .inl u => some (Sum.inl (Sum.inl u)) | .inr h => some (Sum.inr ((⟨c.1, a.1, zS, h.1, (⟨zS, zS⟩ : fg), zS⟩ : eH), ((h.2).b), ((h.2).fH)))) else (if (c.1 == 3) then ((jj a.2).bind fun K => match K with | .inl v => some (Sum.inl (Sum.inl v)) | .inr n => ((jR n.2).bind fun J => match J with | .inl w => some (Sum.inl (Sum.inl w)) | .inr i => some (Sum.inr ((⟨c.1, a.1, zS, n.1, (⟨zS, zS⟩ : fg), i.1⟩ : eH), ((i.2).b), ((i.2).fH))))) else (if (c.1 == 4) then ((jj a.2).bind fun M => match M with | .inl x => some (Sum.inl (Sum.inl x)) | .inr o => ((jj o.2).bind fun L => match L with | .inl y => some (Sum.inl (Sum.inl y)) | .inr j => some (Sum.inr ((⟨c.1, a.1, zS, o.1, j.1, zS⟩ : eH), ((j.2).b), ((j.2).fH))))) else some (Sum.inr ((⟨c.1, a.1, zS, (⟨zS, zS⟩ : fg), (⟨zS, zS⟩ : fg), zS⟩ : eH), ((a.2).b), ((a.2).fH))))))) : Option ((Int ⊕ (eH × eP)) ⊕ (eH × (List Int) × Bool))).bind fun s => match s with | .inl z => some z | .inr (p, d, k) => ((iC p).bind fun E => (if (!E) then ((fA (⟨d, k⟩ : eP) 11).bind fun F => match F with | .inl q => some (Sum.inl q) | .inr W => some (Sum.inr ((⟨0, (⟨zS, zS⟩ : fg), zS, (⟨zS, zS⟩ : fg), (⟨zS, zS⟩ : fg), zS⟩ : eH), (⟨d, k⟩ : eP)))) else some (Sum.inr (p, (⟨d, k⟩ : eP)))))))))
def lG (a0 : eP) : Option (Int ⊕ (eY × eP)) :=
 ((mO a0).bind fun j => match j with | .inl c => some (Sum.inl c) | .inr k => ((iE k.2 8).bind fun i => match i with | .inl d => some (Sum.inl d) | .inr a => (if ((a.1.length : Int) != 8) then ((fA a.2 11).bind fun h => match h with | .inl g => some (Sum.inl g) | .inr n => some (Sum.inr ((⟨(⟨0, (⟨zS, zS⟩ : fg), zS, (⟨zS, zS⟩ : fg), (⟨zS, zS⟩ : fg), zS⟩ : eH), []⟩ : eY), a.2))) else some (Sum.inr ((⟨k.1, a.1⟩ : eY), a.2)))))
def nw (a0 : eP) (g : eY) : Option (Int ⊕ (eP × eY)) :=
 ((lG a0).bind fun c => match c with | .inl a => some (Sum.inl a) | .inr d => some (Sum.inr (d.2, d.1)))
def jW (a0 : List Int) (a : eY) : Option (Int × eY) :=
 ((gp a0).bind fun l => ((nw (⟨l, false⟩ : eP) a).bind fun s => some ((rM (fun r => (r.1).b) s), (match s with | .inl _ => a | .inr r => r.2))))
def gy (a0 : List (ByteArray × (List Int))) : Option Unit :=
 some ()
def jn (a0 : Option fG) : Option (List ByteArray) :=
 (if a0.isNone then some [] else (a0.bind fun x4 => ((gy x4.m).bind fun c => ((ni x4.m).bind fun a => some a))))
def jZ  : Option Bool :=
 ((lR ([(⟨(⟨#[97]⟩ : ByteArray), [107]⟩ : Key), (⟨(⟨#[98]⟩ : ByteArray), [108]⟩ : Key)])).bind fun c => ((lR ([(⟨(⟨#[97]⟩ : ByteArray), []⟩ : Key)])).bind fun A => ((gD c.1 (⟨1, (⟨(⟨#[97]⟩ : ByteArray), (⟨#[114]⟩ : ByteArray)⟩ : fg), (⟨#[100]⟩ : ByteArray), (⟨zS, zS⟩ : fg), (⟨zS, zS⟩ : fg), zS⟩ : eH)).bind fun a => ((lR ([(⟨(⟨#[97]⟩ : ByteArray), [109]⟩ : Key)])).bind fun D => ((lD ([]) (⟨(a.1).eH, (a.1).Tag⟩ : eY)).bind fun d => ((iq d.2).bind fun h => ((jW h (⟨(⟨0, (⟨zS, zS⟩ : fg), zS, (⟨zS, zS⟩ : fg), (⟨zS, zS⟩ : fg), zS⟩ : eH), []⟩ : eY)).bind fun g => ((if (c.2 == 0) then some (A.2 == 21) else some false).bind fun p => ((if p then some (a.2 == 0) else some false).bind fun q => ((if q then some ((((a.1).Tag).length : Int) == 8) else some false).bind fun s => ((if s then ((fK c.1 (⟨(a.1).eH, (a.1).Tag⟩ : eY)).bind fun o => some (o == 0)) else some false).bind fun t => ((if t then ((fK D.1 (⟨(a.1).eH, (a.1).Tag⟩ : eY)).bind fun n => some (n == 20)) else some false).bind fun u => ((if u then ((jn c.1).bind fun k => some ((k.length : Int) == 2)) else some false).bind fun v => ((if v then ((iG c.1 ([(⟨(a.1).eH, (a.1).Tag⟩ : eY), (⟨(⟨1, (⟨(⟨#[97]⟩ : ByteArray), (⟨#[114]⟩ : ByteArray)⟩ : fg), (⟨#[100]⟩ : ByteArray), (⟨zS, zS⟩ : fg), (⟨zS, zS⟩ : fg), zS⟩ : eH), []⟩ : eY)])).bind fun j => some ((j.length : Int) == 1)) else some false).bind fun w => ((if w then some d.1 else some false).bind fun x => ((if x then some (g.1 == 0) else some false).bind fun y => ((if y then ((mU g.2 (⟨(a.1).eH, (a.1).Tag⟩ : eY)).bind fun i => some i) else some false).bind fun z => some z)))))))))))))))))
def ky (a0 : eP) (g : eY) : Option (Int ⊕ (eP × eY)) :=
 ((lG a0).bind fun c => match c with | .inl a => some (Sum.inl a) | .inr d => some (Sum.inr (d.2, d.1)))
def ij (a0 : List Int) (a : eY) : Option (Int × eY) :=
 ((gp a0).bind fun l => ((ky (⟨l, false⟩ : eP) a).bind fun s => some ((rM (fun r => (r.1).b) s), (match s with | .inl _ => a | .inr r => r.2))))
def kU (a0 : List Key) (u : eH) : Option Bool :=
 (jZ.bind fun z => (if (!z) then some false else ((nH a0 ([])).bind fun A => ((if (decide (A > 2000)) then some true else ((mo ([u])).bind fun k => some (decide (k > 400)))).bind fun w => (if w then some true else ((lR a0).bind fun d => (if (d.2 != 0) then some d.1.isNone else ((gD d.1 u).bind fun c => (if (c.2 != 0) then ((if ((((c.1).Tag).length : Int) == 0) then ((iG d.1 ([c.1])).bind fun v => some ((v.length : Int) == 0)) else some false).bind fun x => some x) else ((lD ([]) c.1).bind fun n => ((iq n.2).bind fun g => ((ij g (⟨(⟨0, (⟨zS, zS⟩ : fg), zS, (⟨zS, zS⟩ : fg), (⟨zS, zS⟩ : fg), zS⟩ : eH), []⟩ : eY)).bind fun a => ((if n.1 then some (a.1 == 0) else some false).bind fun o => ((if o then ((fK d.1 (⟨(c.1).eH, (c.1).Tag⟩ : eY)).bind fun j => some (j == 0)) else some false).bind fun p => ((if p then ((fK d.1 a.2).bind fun i => some (i == 0)) else some false).bind fun q => (((if q then ((iG d.1 ([(⟨(c.1).eH, (c.1).Tag⟩ : eY), a.2])).bind fun h => some (((h.length : Int) == 1), ((a.2).Tag))) else some (false, ((a.2).Tag))) : Option (Bool × (List Int))).bind fun (s, y) => ((if s then some (iJ ((a.2).eH) u) else some false).bind fun t => some t)))))))))))))))))
end
end Go.Proofs.Ytcafmokjkjcomaa
