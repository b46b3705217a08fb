/- a part of a proof of CensusSums -/
import Derived.Test.YtfjdjbdnnoijgaaGreatRtS
import Derived.Shelf.SlSortCmp.NoneTotal
import Derived.Shelf.SortM.Plain
import Derived.Shelf.SortM.SortNone
import Derived.Shelf.SlIter.Sorted
import Derived.Shelf.SlIter.Nil
import Derived.Test.YtfjdjbdnnoijgaaGreatProg
import Derived.KernelRfl
set_option linter.all false
namespace Go.Proofs.YtfjdjbdnnoijgaaGreat
open Go.Sort Go.Proofs Go.Shelf
theorem keys_one {g b : Nat} {o : Obj} : keys [(g, o)] b ↔ b = g := by
  constructor
  · rintro ⟨o', h⟩
    simp at h
    exact h.1
  · rintro rfl; exact ⟨o, by simp⟩
theorem heap_turned (w : World) (g m : Nat) (f : Array Value → Array Value) (os : Array Obj) (b : Nat) (hb : b < w.heap.size) :
    (Go.Sort.grow (mapBlock (Go.Sort.ahead w m) g f) os).heap[b]? = if g = b then w.heap[b]?.map (onCells f) else w.heap[b]? := by
  have hb' : b < (mapBlock (Go.Sort.ahead w m) g f).heap.size := by simp only [mapBlock, Go.Sort.ahead, Array.size_modify]; exact hb
  rw [heap_grow_old _ _ hb']
  simp only [mapBlock, Go.Sort.ahead, Array.getElem?_modify]
theorem back_turned {w : World} {g m : Nat} {f : Array Value → Array Value} {os : Array Obj} {cs : Array Value} {T : TypeId} {fr : Nat × Nat} (hg : w.heap[g]? = some (.cells cs T fr)) :
    Back true [(g, .cells cs T fr)] [(g, .cells (f cs) T fr)] w (Go.Sort.grow (mapBlock (Go.Sort.ahead w m) g f) os) := by
  have hlt : g < w.heap.size := (Array.getElem?_eq_some_iff.1 hg).1
  refine ⟨⟨rfl, rfl, rfl, ?_, ?_, fun b hb hn => ?_⟩, fun b o h => ?_, by simp⟩
  · refine Low.of ?_
    show w.drawn ≤ w.drawn + m
    omega
  · show w.heap.size ≤ (w.heap.modify g (onCells f) ++ os).size
    simp
  · rw [heap_turned _ _ _ _ _ _ hb, if_neg fun h => hn (keys_one.2 h.symm)]
  · simp only [List.mem_cons, List.not_mem_nil, or_false, Prod.mk.injEq] at h
    obtain ⟨rfl, rfl⟩ := h
    refine ⟨?_, .inr (keys_one.2 rfl)⟩
    rw [heap_turned _ _ _ _ _ _ hlt, if_pos rfl, hg]
    rfl
theorem grow_of_ex {w W : World} (h : Ex true w W) : ∃ q os, W = Go.Sort.grow (w.drewN q) os := by
  refine ⟨W.drawn - w.drawn, W.heap.extract w.heap.size W.heap.size, ?_⟩
  have hh : W.heap = w.heap ++ W.heap.extract w.heap.size W.heap.size := by
    apply Array.ext_getElem?
    intro i
    rw [Array.getElem?_append]
    split
    · rename_i hi; exact h.old i hi
    · rename_i hi
      rw [Array.getElem?_extract]
      have hsz := h.size
      split
      · rw [show w.heap.size + (i - w.heap.size) = i by omega]
      · exact Array.getElem?_eq_none (by omega)
  obtain ⟨h1, h2, h3, h4, h5⟩ := W
  have e1 := h.os; have e2 := h.tape; have e3 := h.output; have e4 := h.drawn rfl
  simp only at e1 e2 e3 e4 hh
  unfold Go.Sort.grow World.drewN
  simp only [World.mk.injEq]
  exact ⟨hh, e2, by omega, e1, e3⟩
theorem flat_at {α : Type} [Inhabited α] {enc : α → List Value} {k : Nat} (hk : ∀ x, (enc x).length = k) (l : List α) (j : Nat) (hj : j < l.length * k) :
    (l.map enc).flatten[j]? = some ((flatK enc k l.toArray)[j]!) := by
  have k0 : 0 < k := by
    cases k with
    | zero => simp at hj
    | succ n => omega
  have h1 : j / k < l.length := (Nat.div_lt_iff_lt_mul k0).2 hj
  rw [get_flatK _ _ _ _ (by simpa using hj)]
  have e1 : l.toArray[j / k]! = l[j / k] := by
    rw [getElem!_pos l.toArray (j / k) (by simpa using h1)]; simp
  rw [e1]
  have h2 : j % k < (enc l[j / k]).length := by rw [hk]; exact Nat.mod_lt _ k0
  have h3 := flat_get hk l (j / k) l[j / k] (List.getElem?_eq_getElem h1) (j % k) ((enc l[j / k])[j % k]) (List.getElem?_eq_getElem h2)
  rw [Nat.div_add_mod' j k] at h3
  rw [h3, getElem!_pos (enc l[j / k]) (j % k) h2]
theorem holds_of_take {α : Type} [Inhabited α] {enc : α → List Value} {k : Nat} (hk : ∀ x, (enc x).length = k) {w : World} {g : Nat} {cs : Array Value} {T : TypeId} (hg : w.heap[g]? = some (.cells cs T (0, 0))) (l : List α)
    (ht : cs.toList.take (l.length * k) = (l.map enc).flatten) : HoldsK enc k w g 0 l.toArray := by
  intro j hj
  have hj' : j < l.length * k := by simpa using hj
  have h1 := flat_at hk l j hj'
  rw [← ht, List.getElem?_take, if_pos hj'] at h1
  refine ⟨?_, ?_⟩
  · simp only [World.cell?, hg, Nat.zero_add]
    simpa using h1
  · simp [World.frozen?, hg]
theorem take_turned {α : Type} [Inhabited α] {enc : α → List Value} {k : Nat} (hk : ∀ x, (enc x).length = k) {cs : Array Value} (l : List α) (hs : l.length * k ≤ cs.size) :
    (putCells id 0 (flatK enc k l.toArray) cs).toList.take (l.length * k) = (l.map enc).flatten := by
  apply List.ext_getElem?
  intro j
  rw [List.getElem?_take]
  split
  · rename_i hj
    rw [flat_at hk l j hj]
    simp only [putCells, Array.getElem?_toList, Array.getElem?_mapIdx, size_flatK, List.size_toArray]
    rw [Array.getElem?_eq_getElem (by omega)]
    simp [hj]
  · rename_i hj
    rw [List.getElem?_eq_none (by rw [flat_length hk]; omega)]
theorem putCells_size (enc : Value → Value) (o : Nat) (d : Array Value) (c : Array Value) : (putCells enc o d c).size = c.size := by simp [putCells]
section
variable {α : Type} {P : Program} {ρ : Ren}
theorem swo_of {l : List α} {cf : α × α → Option Int} (h : SortOk cf l) : SWO (ltOf fun (x y : {x // x ∈ l}) => (cf (x.1, y.1)).getD 0) ∧
    (∀ x y : {x // x ∈ l}, ltOf (fun (x y : {x // x ∈ l}) => (cf (x.1, y.1)).getD 0) x y = lessO cf x.1 y.1) := by
  have e : ∀ x y : {x // x ∈ l}, ltOf (fun (x y : {x // x ∈ l}) => (cf (x.1, y.1)).getD 0) x y = lessO cf x.1 y.1 := fun x y => by
    obtain ⟨c, hc⟩ := h.is x.1 x.2 y.1 y.2
    simp [ltOf, lessO, hc]
  refine ⟨⟨fun x => ?_, fun x y z => ?_, fun x y z => ?_⟩, e⟩
  · rw [e]; exact h.irrefl _ x.2
  · rw [e, e, e]; exact h.trans _ x.2 _ y.2 _ z.2
  · rw [e, e, e]
    intro h1 h2
    cases h3 : lessO cf x.1 z.1 with
    | false => rfl
    | true =>
      cases h4 : lessO cf y.1 x.1 with
      | true =>
        have := h.trans _ y.2 _ x.2 _ z.2 h4 h3
        rw [h2] at this; cases this
      | false =>
        have := h.total _ x.2 _ y.2 h1 h4
        rw [this, h2] at h3; cases h3
theorem sortF_gives (L : SlLaysF0.n6 P ρ) (k : Nat) (aE : ∀ w, (isAgg (ρ.t 24)).run P w = .ok true w) (zE : ∀ w, (Go.sizeOf (ρ.t 24)).run P w = .ok k w) {e : TypeId} (enc : α → List Value) (hk : ∀ x, (enc x).length = k) (h1 : ∀ x, ∀ u ∈ enc x, u.oneCell' = true)
    {v fv : Value} {l r : List α} {R : List (Nat × Obj)} {cf : α × α → Option Int} {w : World} {μ0 : Mem} (hH : Held (R ++ []) w) (hS0 : Sub μ0 (hpx w (R ++ []))) (hr : Row e enc k v l R)
    (hc : CbO P fv μ0 (fun (x : α × α) => [(.agg (enc x.1).toArray), (.agg (enc x.2).toArray)]) (fun (r : Int) => (.int .i64 r)) cf) (hm : sortF cf l = some r) :
    GivesM true P (ρ.f 6) [v, fv] w (R ++ []) (fun u L1 _ => ∃ (S : List (Nat × Obj)), u = (.tuple #[]) ∧ L1 = (S ++ []) ∧ Row e enc k v r S) := by
  obtain ⟨ok, rfl⟩ := sortF_some hm
  rw [List.append_nil] at hH hS0 ⊢
  rcases Nat.eq_zero_or_pos l.length with h0 | hpos
  · have hl : l = [] := List.eq_nil_of_length_eq_zero h0
    subst hl
    have hs : sorted cf ([] : List α) = [] := by simp [sorted]
    rw [hs]
    obtain ⟨p, c, rfl⟩ : ∃ p c, v = .slice p 0 c := by
      rcases hr with ⟨rfl, _, _⟩ | ⟨g, cap, cur, rfl, _⟩
      · exact ⟨_, _, rfl⟩
      · exact ⟨_, _, rfl⟩
    refine Calls.mono (AnyF.slices_SortFunc_none L p c fv w) fun x w' ⟨hx, hw⟩ => ?_
    subst hx hw
    refine ⟨_, R, rfl, ⟨⟨rfl, rfl, rfl, Low.of (Nat.le_refl _), Nat.le_refl _, fun _ _ _ => rfl⟩, fun b o h => ⟨hH b o h, .inr ⟨o, h⟩⟩, ?_⟩, R, rfl, (List.append_nil R).symm, hr⟩
    rcases hr with ⟨_, _, rfl⟩ | ⟨g, cap, cur, _, rfl, _⟩ <;> simp
  · rcases hr with ⟨_, rfl, _⟩ | ⟨g, cap, cur, rfl, rfl, hlc, hcm, hcs, htk⟩
    · simp at hpos
    have hg : w.heap[g]? = some (.cells cur e (0, 0)) := hH g _ (by simp)
    have hlt : g < w.heap.size := (Array.getElem?_eq_some_iff.1 hg).1
    haveI : Inhabited {x // x ∈ l} := ⟨⟨l[0], List.getElem_mem hpos⟩⟩
    obtain ⟨gg, caps, rfl, hent, hgive⟩ := hc
    obtain ⟨hO, hlo⟩ := swo_of ok
    have hal : l.attach.toArray.size = l.length := by simp
    have hmv : l.attach.map (fun x => enc x.1) = l.map enc := by
      rw [show (fun x : {x // x ∈ l} => enc x.1) = enc ∘ Subtype.val from rfl, ← List.map_map, List.attach_map_subtype_val]
    have hH2 : HoldsK (fun x : {x // x ∈ l} => enc x.1) k w g 0 l.attach.toArray := holds_of_take (fun x => hk x.1) hg l.attach (by rw [hmv, List.length_attach, htk])
    have hcmp : CmpLays P gg caps (fun x : {x // x ∈ l} => enc x.1) k (fun x y => (cf (x.1, y.1)).getD 0) g 0 l.attach.toArray.size w := by
      intro m os dk hdk x y
      obtain ⟨c, hcc⟩ := ok.is x.1 x.2 y.1 y.2
      have hsub : Sub μ0 (hp (sortWorldK (fun x : {x // x ∈ l} => enc x.1) k w g 0 m dk os)) := fun b o hb => by
        have h2 := hS0 b o hb
        unfold hpx at h2
        split at h2
        · cases h2
        · rename_i hn
          have hbl : b < w.heap.size := (Array.getElem?_eq_some_iff.1 h2).1
          show (Go.Sort.grow (mapBlock (Go.Sort.ahead w m) g _) os).heap[b]? = _
          rw [heap_turned _ _ _ _ _ _ hbl, if_neg fun h => hn (keys_one.2 h.symm)]
          exact h2
      have h3 := hgive (sortWorldK (fun x : {x // x ∈ l} => enc x.1) k w g 0 m dk os) (x.1, y.1) c hsub hcc
      have ea : ([Value.agg (enc x.1).toArray, Value.agg (enc y.1).toArray] ++ caps.toList).toArray = #[Value.agg (enc x.1).toArray, Value.agg (enc y.1).toArray] ++ caps := by
        apply Array.ext'; simp
      rw [← ea]
      exact Calls.mono h3 fun u W' hu => ⟨by rw [hu.1]; show _ = Ending.returned (.int .i64 ((cf (x.1, y.1)).getD 0)); rw [hcc]; rfl, grow_of_ex hu.2⟩
    have hT : ∀ x y : {x // x ∈ l}, ltOf (fun (x y : {x // x ∈ l}) => (cf (x.1, y.1)).getD 0) x y = false → ltOf (fun (x y : {x // x ∈ l}) => (cf (x.1, y.1)).getD 0) y x = false → x = y := fun x y a b => by
      rw [hlo] at a b
      exact Subtype.ext (ok.total _ x.2 _ y.2 a b)
    have hmain := AnyQ.slices_SortFunc_total L k aE zE (fun x : {x // x ∈ l} => enc x.1) (fun x => hk x.1) (fun x => h1 x.1) (fun x y => (cf (x.1, y.1)).getD 0) hO gg caps g 0 cap l.attach.toArray w hent hcmp hH2 hlt (by rw [hal]; exact ok.short) hT
    rw [hal] at hmain
    refine Calls.mono hmain fun u w' ⟨hu, n, os, hw⟩ => ?_
    subst hu
    generalize hs : l.attach.toArray.toList.mergeSort (fun x y => !ltOf (fun (x y : {x // x ∈ l}) => (cf (x.1, y.1)).getD 0) y x) = s at hw
    have hsm : s.map Subtype.val = sorted cf l := by
      rw [← hs, List.map_mergeSort (s := fun x y => !lessO cf y x) (fun a _ b _ => by rw [hlo])]
      simp [sorted]
    have hsl : s.length = l.length := by rw [← hs, List.length_mergeSort]; simp
    have hrl : (sorted cf l).length = l.length := by simp [sorted, List.length_mergeSort]
    have hbk := back_turned (w := w) (m := n) (f := putCells id 0 (flatK (fun x : {x // x ∈ l} => enc x.1) k s.toArray)) (os := os) hg
    have hw2 : w' = Go.Sort.grow (mapBlock (Go.Sort.ahead w n) g (putCells id 0 (flatK (fun x : {x // x ∈ l} => enc x.1) k s.toArray))) os := hw
    rw [← hw2] at hbk
    refine ⟨_, _, rfl, hbk, _, rfl, (List.append_nil _).symm, .inr ⟨g, cap, _, by rw [hrl], rfl, by omega, hcm, by rw [putCells_size, hcs], ?_⟩⟩
    rw [hrl, ← hsl, take_turned (fun x => hk x.1) s (by rw [hsl, hcs]; exact Nat.mul_le_mul_right k hlc), ← hsm, List.map_map]
    rfl
end
end Go.Proofs.YtfjdjbdnnoijgaaGreat
namespace Go.Proofs.YtfjdjbdnnoijgaaGreat
open Go.Sort Go.Proofs Go.Shelf
theorem bytes_toList (b : ByteArray) : b.toList = b.data.toList := by rw [ByteArray.toList_eq]
theorem flat_S (l : List ByteArray) : (l.map encSk).flatten = l.map Value.string := by
  induction l with
  | nil => rfl
  | cons x l ih => simp only [List.map_cons, List.flatten_cons, ih]; rfl
theorem sorted_S (l : List ByteArray) : (sortedS l).map (fun b => b.data.toList) = (l.map (fun b => b.data.toList)).mergeSort (fun x y => decide (x ≤ y)) := by
  unfold sortedS
  refine List.map_mergeSort fun a _ b _ => ?_
  unfold ltS
  rw [bytesLess_eq, bytes_toList, bytes_toList]
  by_cases h : a.data.toList ≤ b.data.toList
  · have h' : ¬ b.data.toList < a.data.toList := List.not_lt.2 h
    simp [h, h']
  · have h' : b.data.toList < a.data.toList := by
      cases Decidable.em (b.data.toList < a.data.toList) with
      | inl h2 => exact h2
      | inr h2 => exact absurd (List.not_lt.1 h2) h
    simp [h, h']
section
variable {P : Program} {ρ : Ren}
theorem sortS_gives (L : SlLaysM.n6 P ρ) {e : TypeId} {v : Value} {l r : List ByteArray} {R : List (Nat × Obj)} {w : World} (hH : Held (R ++ []) w) (hr : Row e encSk 1 v l R) (hm : sortS l = some r) :
    GivesM true P (ρ.f 6) [v] w (R ++ []) (fun u L1 _ => ∃ (S : List (Nat × Obj)), u = (.tuple #[]) ∧ L1 = (S ++ []) ∧ Row e encSk 1 v r S) := by
  unfold sortS at hm
  split at hm
  · rename_i hshort
    cases hm
    rw [List.append_nil] at hH ⊢
    rcases Nat.eq_zero_or_pos l.length with h0 | hpos
    · have hl : l = [] := List.eq_nil_of_length_eq_zero h0
      subst hl
      have hs : sortedS [] = [] := by simp [sortedS]
      rw [hs]
      obtain ⟨p, c, rfl⟩ : ∃ p c, v = .slice p 0 c := by
        rcases hr with ⟨rfl, _, _⟩ | ⟨g, cap, cur, rfl, _⟩
        · exact ⟨_, _, rfl⟩
        · exact ⟨_, _, rfl⟩
      refine Calls.mono (AnyM.slices_Sort_string_none L p c w) fun x w' ⟨hx, hw⟩ => ?_
      subst hx hw
      refine ⟨_, R, rfl, ⟨⟨rfl, rfl, rfl, Low.of (Nat.le_refl _), Nat.le_refl _, fun _ _ _ => rfl⟩, fun b o h => ⟨hH b o h, .inr ⟨o, h⟩⟩, ?_⟩, R, rfl, (List.append_nil R).symm, hr⟩
      rcases hr with ⟨_, _, rfl⟩ | ⟨g, cap, cur, _, rfl, _⟩ <;> simp
    · rcases hr with ⟨_, rfl, _⟩ | ⟨g, cap, cur, rfl, rfl, hlc, hcm, hcs, htk⟩
      · simp at hpos
      have hg : w.heap[g]? = some (.cells cur e (0, 0)) := hH g _ (by simp)
      have hlt : g < w.heap.size := (Array.getElem?_eq_some_iff.1 hg).1
      have hH2 : Holds encStr w g 0 (l.map (fun b => b.data.toList)).toArray := by
        intro j hj
        have hj' : j < l.length := by simpa using hj
        have h1 : (cur.toList.take (l.length * 1))[j]? = ((l.map encSk).flatten)[j]? := by rw [htk]
        rw [flat_S, List.getElem?_take, if_pos (by omega), List.getElem?_map, List.getElem?_eq_getElem hj'] at h1
        refine ⟨?_, by simp [World.frozen?, hg]⟩
        simp only [World.cell?, hg, Nat.zero_add]
        rw [getElem!_pos _ j hj]
        simpa using h1
      have hmain := AnyM.slices_Sort_string L g 0 cap (l.map (fun b => b.data.toList)) w hH2 hlt (by simpa using hshort)
      rw [List.length_map, ← sorted_S] at hmain
      refine Calls.mono hmain fun u w' ⟨hu, n, os, hw⟩ => ?_
      subst hu
      have hrl : (sortedS l).length = l.length := by simp [sortedS, List.length_mergeSort]
      have hbk := back_turned (w := w) (m := n) (f := putCells encStr 0 ((sortedS l).map (fun b => b.data.toList)).toArray) (os := os) hg
      have hw2 : w' = Go.Sort.grow (mapBlock (Go.Sort.ahead w n) g (putCells encStr 0 ((sortedS l).map (fun b => b.data.toList)).toArray)) os := hw
      rw [← hw2] at hbk
      refine ⟨_, _, rfl, hbk, _, rfl, (List.append_nil _).symm, .inr ⟨g, cap, _, by rw [hrl], rfl, by omega, hcm, by simpa [putCells] using hcs, ?_⟩⟩
      rw [hrl, flat_S]
      apply List.ext_getElem?
      intro j
      rw [List.getElem?_take]
      split
      · rename_i hj
        have hj' : j < (sortedS l).length := by omega
        rw [List.getElem?_map, List.getElem?_eq_getElem hj']
        simp only [putCells, Array.getElem?_toList, Array.getElem?_mapIdx]
        rw [Array.getElem?_eq_getElem (by omega)]
        have h3 : j < ((sortedS l).map (fun b => b.data.toList)).toArray.size := by simpa using hj'
        have h4 : 0 ≤ j ∧ j < 0 + ((sortedS l).map (fun b => b.data.toList)).toArray.size := ⟨by omega, by omega⟩
        simp only [Option.map_some, if_pos h4, Nat.sub_zero]
        rw [getElem!_pos _ j h3]
        simp
      · rename_i hj
        rw [List.getElem?_eq_none (by simp; omega)]
  · cases hm
end
end Go.Proofs.YtfjdjbdnnoijgaaGreat
namespace Go.Proofs.YtfjdjbdnnoijgaaGreat
open Go.WideElems Go.WideShapes Go.Sort Go.Proofs Go.Shelf
theorem owns_of_map {β : Type} {vf : β → Value} {P : Program} {kt : TypeId} (ht : P.underlying kt = some .string) {l : List (ByteArray × β)} {es : Array MapEntry} {clock : Nat} (h : MapOf Value.string vf l es clock) (hn : (l.map (·.1)).Nodup) (hs : ∀ p ∈ l, p.1.size ≤ maxLen) (hl : l.length ≤ maxLen)
    {W : World} {b : Nat} (hb : W.heap[b]? = some (.map es clock)) : ∃ D : DataW Unit, W.ownsMap P kt (fun _ => some (.lit (.bool true), [])) b es.size D ∧ (strKeys D).Perm (l.map (fun p => p.1.data.toList)) ∧ Maps.size D = l.length := by
  have hkeys := h.keys
  have hrd : ∀ x ∈ es.toList, ∃ s : ByteArray, x.key = .string s ∧ s.size ≤ maxLen := fun x hx => by
    have h1 : x.key ∈ es.toList.map (·.key) := List.mem_map.2 ⟨x, hx, rfl⟩
    rw [hkeys] at h1
    obtain ⟨s, h2, h3⟩ := List.mem_map.1 h1
    obtain ⟨p, h4, h5⟩ := List.mem_map.1 h2
    exact ⟨s, h3.symm, by rw [← h5]; exact hs p h4⟩
  have hrd2 : ∀ x ∈ es.toList, ∃ s : ByteArray, x.key = .string s ∧ Go.WideElems.rd (H := Unit) P kt (fun _ => some (.lit (.bool true), [])) x = some (.string s.data.toList, .lit (.bool true)) := fun x hx => by
    obtain ⟨s, h1, h2⟩ := hrd x hx
    refine ⟨s, h1, ?_⟩
    simp [Go.WideElems.rd, keyOf, ht, mapKey, h1, h2]
  refine ⟨_, ⟨es, clock, hb, ⟨by rw [h.length]; exact hl, ⟨h.lt, ?_, ?_⟩, fun x hx => ?_⟩, Nat.le_refl _, rfl⟩, ?_, ?_⟩
  · have := h.born
    rw [List.Nodup, List.pairwise_map]
    exact this.imp (fun {a b} h => by omega)
  · rw [hkeys]
    rw [List.Nodup, List.pairwise_map]
    exact hn.imp (fun {a b} hab e => hab (by injection e))
  · obtain ⟨s, _, h2⟩ := hrd2 x hx
    exact ⟨_, h2⟩
  · have h1 := (sorted_perm (es.toList.map (Go.WideElems.rg (H := Unit) P kt (fun _ => some (.lit (.bool true), []))))).map (fun p => strOf p.1)
    refine List.Perm.trans h1 ?_
    have e : (es.toList.map (Go.WideElems.rg (H := Unit) P kt (fun _ => some (.lit (.bool true), [])))).map (fun p => strOf p.1) = l.map (fun p => p.1.data.toList) := by
      have e1 : (es.toList.map (Go.WideElems.rg (H := Unit) P kt (fun _ => some (.lit (.bool true), [])))).map (fun p => strOf p.1) = (es.toList.map (·.key)).map (fun v => match v with | .string s => s.data.toList | _ => []) := by
        rw [List.map_map, List.map_map]
        refine List.map_congr_left fun x hx => ?_
        obtain ⟨s, h2, h3⟩ := hrd2 x hx
        simp [Go.WideElems.rg, h3, h2, strOf]
      rw [e1, hkeys, List.map_map, List.map_map]
      rfl
    rw [e]
  · have h1 := (sorted_perm (es.toList.map (Go.WideElems.rg (H := Unit) P kt (fun _ => some (.lit (.bool true), []))))).length_eq
    show (List.foldr DataW.insert [] _).length = _
    rw [h1, List.length_map, ← h.length]
    simp
theorem sorted_perm_S {l : List ByteArray} {ss : List (List UInt8)} (h : ss.Perm (l.map fun b => b.data.toList)) : ss.mergeSort (fun x y => decide (x ≤ y)) = (sortedS l).map (fun b => b.data.toList) := by
  rw [sorted_S]
  have le : ∀ a b c : List UInt8, decide (a ≤ b) = true → decide (b ≤ c) = true → decide (a ≤ c) = true := fun a b c h1 h2 => by
    simp only [decide_eq_true_eq] at *
    exact List.le_trans h1 h2
  have tot : ∀ a b : List UInt8, (decide (a ≤ b) || decide (b ≤ a)) = true := fun a b => by
    simp only [Bool.or_eq_true, decide_eq_true_eq]
    exact List.le_total a b
  refine List.Perm.eq_of_pairwise (le := fun a b => decide (a ≤ b) = true) (fun a b _ _ h1 h2 => List.le_antisymm (by simpa using h1) (by simpa using h2)) (List.pairwise_mergeSort le tot _) (List.pairwise_mergeSort le tot _) ?_
  exact (List.mergeSort_perm _ _).trans (h.trans (List.mergeSort_perm _ _).symm)
section
variable {P : Program} {ρk ρt ρm : Ren}
theorem keysS_gives (LK : SlLaysZ.n7 P ρk) (LT : SlLaysZ.n6 P ρt) (LM : SlLaysM.n6 P ρm) (h9 : ρt.f 9 = ρm.f 6) (hK : P.underlying (ρk.t 26) = some .string) (eg : ∀ args w, (callFunc (ρk.f 10) args).run P w = .ok (.enter (ρk.f 10) args) w) (es : ∀ args w, (callFunc (ρt.f 9) args).run P w = .ok (.enter (ρt.f 9) args) w)
    {β : Type} {vf : β → Value} {l : List (ByteArray × β)} {b : Nat} {mv : Value} {t : TypeId} {W : World} {r : List ByteArray} (hb : W.heap[b]? = some (.cells #[mv] t (0, 0))) (hm : MapAt Value.string vf (hp W) mv l) (hk : keysS l = some r) :
    GivesRow false P (ρt.f 6) [.func (.func (ρk.f 10)) #[] #[.pointer (some ⟨b, 0, none⟩)]] W (ρt.t 26) encSk 1 r := by
  unfold keysS at hk
  split at hk
  case isFalse => cases hk
  rename_i hc
  obtain ⟨hc1, hc2, hc3⟩ := hc
  cases hk
  have hblt : b < W.heap.size := (Array.getElem?_eq_some_iff.1 hb).1
  have hcell : W.cell? ⟨b, 0, none⟩ = some mv := by simp [World.cell?, hb]
  have hsort : AnyZ.SortsIn P ρt Fence.wide 4 :=
    ⟨fun blk off cap ss W hH hblk hsz => callsIn_wide.2 (by rw [h9]; exact AnyM.slices_Sort_string LM blk off cap ss W hH hblk hsz), fun p cap W => callsIn_wide.2 (by rw [h9]; exact AnyM.slices_Sort_string_none LM p cap W)⟩
  have hseq : SeqGives Fence.wide 2 P (ρk.f 10) #[.pointer (some ⟨b, 0, none⟩)] encStr (fun ss => ss.Perm ((l.map (·.1)).map fun b => b.data.toList)) l.length W := by
    rcases hm with ⟨rfl, rfl⟩ | ⟨m, es, clock, rfl, hmb, hmap⟩
    · have := AnyZ.keys_gives_nil (ρ := ρk) { LK with } Fence.wide 2 trivial rfl b W hblt hcell
      intro l' J W' hW hJ hY h0
      refine CallsIn.mono (this l' J W' hW hJ hY h0) ?_
      rintro e w' ⟨hv, ss, rfl, hj⟩
      exact ⟨hv, [], List.Perm.refl _, hj⟩
    · obtain ⟨D, hown, hperm, hsz⟩ := owns_of_map hK hmap hc1 hc2 (by unfold maxLen; omega) hmb
      have := AnyZ.keys_gives (ρ := ρk) { LK with } Fence.wide 2 trivial rfl (by omega) b m es.size D W hblt hcell hown
      intro l' J W' hW hJ hY h0
      refine CallsIn.mono (this l' J W' hW hJ (by rw [hsz]; exact hY) h0) ?_
      rintro e w' ⟨hv, ss, hp, hj⟩
      refine ⟨hv, ss, ?_, hj⟩
      rw [List.map_map]
      exact hp.trans hperm
  have cS := AnyZ.sorted_in LT Fence.wide 5 trivial trivial trivial trivial rfl (by omega) hsort es (ρk.f 10) #[.pointer (some ⟨b, 0, none⟩)] trivial eg _ l.length (by unfold maxLen; omega) hc3 W hseq
  refine Calls.mono (callsIn_wide.1 cS) ?_
  rintro e w' ⟨v, ss, rfl, hS, hrow, hnil, hbel⟩
  have hs := sorted_perm_S hS
  have hlen : ss.length = (sortedS (l.map (·.1))).length := by
    have := congrArg List.length hs
    simpa using this
  have hflat : (ss.mergeSort (fun x y => decide (x ≤ y))).map encStr = ((sortedS (l.map (·.1))).map encSk).flatten := by
    rw [hs, flat_S, List.map_map]
    refine List.map_congr_left (fun x _ => ?_)
    simp only [Function.comp, encStr]
  rcases hrow.2 with ⟨rfl, h0⟩ | ⟨g, cap, cur, rfl, hbase, hg, hnc, hcm, hcs, htk⟩
  · have : sortedS (l.map (·.1)) = [] := List.eq_nil_of_length_eq_zero (by omega)
    rw [this]
    exact ⟨_, [], rfl, Back.of_ex ⟨hbel.os, hbel.tape, hbel.output, fun h => (by cases h), hbel.size, fun b hb => hbel.block b hb⟩ (fun _ _ h => by cases h) (by simp), Row.nil _ _ _⟩
  · refine ⟨_, [(g, .cells cur (ρt.t 26) (0, 0))], rfl, Back.of_ex ⟨hbel.os, hbel.tape, hbel.output, fun h => (by cases h), hbel.size, fun b hb => hbel.block b hb⟩ (fun b o h => by simp at h; obtain ⟨rfl, rfl⟩ := h; exact ⟨hg, hbase⟩) (by simp), .inr ⟨g, cap, cur, by rw [hlen], rfl, by omega, hcm, hcs, ?_⟩⟩
    rw [← hlen, htk, hflat]
end
end Go.Proofs.YtfjdjbdnnoijgaaGreat
namespace Go.Proofs.YtfjdjbdnnoijgaaGreat
def ren91 : Go.Shelf.Ren := ⟨fun | 6 => 91 | 15 => 141 | 14 => 140 | 28 => 182 | 29 => 183 | 20 => 174 | 21 => 175 | 22 => 176 | 23 => 177 | 24 => 178 | 25 => 179 | 26 => 180 | 27 => 181 | 46 => 226 | 47 => 227 | 48 => 228 | 49 => 229 | 50 => 230 | 57 => 249 | n => n, fun | 22 => 53 | 24 => 78 | 25 => 142 | 3 => 3 | 39 => 172 | 0 => 0 | 53 => 205 | 55 => 207 | 4 => 4 | 46 => 198 | 45 => 197 | 50 => 202 | 5 => 5 | 9 => 9 | 66 => 238 | 70 => 242 | 76 => 257 | 77 => 85 | n => n, fun | n => n⟩
theorem lay91 : Go.Proofs.SlLaysF0.n6 Tryz.prog ren91 := {
  mixed := by kernel_rfl,
  f6 := ⟨Tryz.f91.name, by decide, Tryz.func91.trans (congrArg some (by kernel_rfl))⟩,
  f14 := ⟨Tryz.f140.name, by decide, Tryz.func140.trans (congrArg some (by kernel_rfl))⟩,
  f15 := Tryz.func141.trans (congrArg some (by kernel_rfl)),
  f20 := ⟨Tryz.f174.name, by decide, Tryz.func174.trans (congrArg some (by kernel_rfl))⟩,
  f21 := ⟨Tryz.f175.name, by decide, Tryz.func175.trans (congrArg some (by kernel_rfl))⟩,
  f22 := ⟨Tryz.f176.name, by decide, Tryz.func176.trans (congrArg some (by kernel_rfl))⟩,
  f23 := ⟨Tryz.f177.name, by decide, Tryz.func177.trans (congrArg some (by kernel_rfl))⟩,
  f24 := ⟨Tryz.f178.name, by decide, Tryz.func178.trans (congrArg some (by kernel_rfl))⟩,
  f25 := ⟨Tryz.f179.name, by decide, Tryz.func179.trans (congrArg some (by kernel_rfl))⟩,
  f26 := ⟨Tryz.f180.name, by decide, Tryz.func180.trans (congrArg some (by kernel_rfl))⟩,
  f27 := ⟨Tryz.f181.name, by decide, Tryz.func181.trans (congrArg some (by kernel_rfl))⟩,
  f28 := Tryz.func182.trans (congrArg some (by kernel_rfl)),
  f29 := Tryz.func183.trans (congrArg some (by kernel_rfl)),
  f46 := ⟨Tryz.f226.name, by decide, Tryz.func226.trans (congrArg some (by kernel_rfl))⟩,
  f47 := Tryz.func227.trans (congrArg some (by kernel_rfl)),
  f48 := Tryz.func228.trans (congrArg some (by kernel_rfl)),
  f49 := ⟨Tryz.f229.name, by decide, Tryz.func229.trans (congrArg some (by kernel_rfl))⟩,
  f50 := ⟨Tryz.f230.name, by decide, Tryz.func230.trans (congrArg some (by kernel_rfl))⟩,
  f57 := ⟨Tryz.f249.name, by decide, Tryz.func249.trans (congrArg some (by kernel_rfl))⟩,
  t0 := Tryz.underlying0,
  a0 := Tryz.isAgg0,
  z0 := Tryz.sizeOf0,
  v0 := Tryz.zeroValue0,
  t3 := Tryz.underlying3,
  a3 := Tryz.isAgg3,
  z3 := Tryz.sizeOf3,
  v3 := Tryz.zeroValue3,
  t4 := Tryz.underlying4,
  a4 := Tryz.isAgg4,
  z4 := Tryz.sizeOf4,
  v4 := Tryz.zeroValue4,
  t5 := Tryz.underlying5,
  a5 := Tryz.isAgg5,
  z5 := Tryz.sizeOf5,
  v5 := Tryz.zeroValue5,
  t9 := Tryz.underlying9,
  a9 := Tryz.isAgg9,
  z9 := Tryz.sizeOf9,
  v9 := Tryz.zeroValue9,
  t22 := Tryz.underlying53,
  a22 := Tryz.isAgg53,
  z22 := Tryz.sizeOf53,
  v22 := Tryz.zeroValue53,
  t25 := Tryz.underlying142,
  a25 := Tryz.isAgg142,
  z25 := Tryz.sizeOf142,
  v25 := Tryz.zeroValue142,
  t39 := Tryz.underlying172,
  a39 := Tryz.isAgg172,
  z39 := Tryz.sizeOf172,
  v39 := Tryz.zeroValue172,
  t45 := Tryz.underlying197,
  a45 := Tryz.isAgg197,
  z45 := Tryz.sizeOf197,
  v45 := Tryz.zeroValue197,
  t46 := Tryz.underlying198,
  a46 := Tryz.isAgg198,
  z46 := Tryz.sizeOf198,
  v46 := Tryz.zeroValue198,
  t50 := Tryz.underlying202,
  a50 := Tryz.isAgg202,
  z50 := Tryz.sizeOf202,
  v50 := Tryz.zeroValue202,
  t53 := Tryz.underlying205,
  a53 := Tryz.isAgg205,
  z53 := Tryz.sizeOf205,
  v53 := Tryz.zeroValue205,
  t55 := Tryz.underlying207,
  a55 := Tryz.isAgg207,
  z55 := Tryz.sizeOf207,
  v55 := Tryz.zeroValue207,
  t66 := Tryz.underlying238,
  a66 := Tryz.isAgg238,
  z66 := Tryz.sizeOf238,
  v66 := Tryz.zeroValue238,
  t70 := Tryz.underlying242,
  a70 := Tryz.isAgg242,
  z70 := Tryz.sizeOf242,
  v70 := Tryz.zeroValue242,
  t76 := Tryz.underlying257,
  a76 := Tryz.isAgg257,
  z76 := Tryz.sizeOf257,
  v76 := Tryz.zeroValue257,
  t77 := Tryz.underlying85,
  a77 := Tryz.isAgg85,
  z77 := Tryz.sizeOf85,
  v77 := Tryz.zeroValue85}
def ren125 : Go.Shelf.Ren := ⟨fun | 6 => 125 | 15 => 141 | 14 => 164 | 28 => 182 | 29 => 183 | 20 => 194 | 21 => 195 | 22 => 196 | 23 => 197 | 24 => 198 | 25 => 199 | 26 => 200 | 27 => 201 | 46 => 236 | 47 => 227 | 48 => 228 | 49 => 237 | 50 => 238 | 57 => 250 | n => n, fun | 22 => 22 | 24 => 83 | 25 => 150 | 3 => 3 | 39 => 172 | 0 => 0 | 53 => 205 | 55 => 207 | 4 => 4 | 46 => 198 | 45 => 197 | 50 => 202 | 5 => 5 | 9 => 9 | 66 => 238 | 70 => 242 | 76 => 257 | 77 => 85 | n => n, fun | n => n⟩
theorem lay125 : Go.Proofs.SlLaysF0.n6 Tryz.prog ren125 := {
  mixed := by kernel_rfl,
  f6 := ⟨Tryz.f125.name, by decide, Tryz.func125.trans (congrArg some (by kernel_rfl))⟩,
  f14 := ⟨Tryz.f164.name, by decide, Tryz.func164.trans (congrArg some (by kernel_rfl))⟩,
  f15 := Tryz.func141.trans (congrArg some (by kernel_rfl)),
  f20 := ⟨Tryz.f194.name, by decide, Tryz.func194.trans (congrArg some (by kernel_rfl))⟩,
  f21 := ⟨Tryz.f195.name, by decide, Tryz.func195.trans (congrArg some (by kernel_rfl))⟩,
  f22 := ⟨Tryz.f196.name, by decide, Tryz.func196.trans (congrArg some (by kernel_rfl))⟩,
  f23 := ⟨Tryz.f197.name, by decide, Tryz.func197.trans (congrArg some (by kernel_rfl))⟩,
  f24 := ⟨Tryz.f198.name, by decide, Tryz.func198.trans (congrArg some (by kernel_rfl))⟩,
  f25 := ⟨Tryz.f199.name, by decide, Tryz.func199.trans (congrArg some (by kernel_rfl))⟩,
  f26 := ⟨Tryz.f200.name, by decide, Tryz.func200.trans (congrArg some (by kernel_rfl))⟩,
  f27 := ⟨Tryz.f201.name, by decide, Tryz.func201.trans (congrArg some (by kernel_rfl))⟩,
  f28 := Tryz.func182.trans (congrArg some (by kernel_rfl)),
  f29 := Tryz.func183.trans (congrArg some (by kernel_rfl)),
  f46 := ⟨Tryz.f236.name, by decide, Tryz.func236.trans (congrArg some (by kernel_rfl))⟩,
  f47 := Tryz.func227.trans (congrArg some (by kernel_rfl)),
  f48 := Tryz.func228.trans (congrArg some (by kernel_rfl)),
  f49 := ⟨Tryz.f237.name, by decide, Tryz.func237.trans (congrArg some (by kernel_rfl))⟩,
  f50 := ⟨Tryz.f238.name, by decide, Tryz.func238.trans (congrArg some (by kernel_rfl))⟩,
  f57 := ⟨Tryz.f250.name, by decide, Tryz.func250.trans (congrArg some (by kernel_rfl))⟩,
  t0 := Tryz.underlying0,
  a0 := Tryz.isAgg0,
  z0 := Tryz.sizeOf0,
  v0 := Tryz.zeroValue0,
  t3 := Tryz.underlying3,
  a3 := Tryz.isAgg3,
  z3 := Tryz.sizeOf3,
  v3 := Tryz.zeroValue3,
  t4 := Tryz.underlying4,
  a4 := Tryz.isAgg4,
  z4 := Tryz.sizeOf4,
  v4 := Tryz.zeroValue4,
  t5 := Tryz.underlying5,
  a5 := Tryz.isAgg5,
  z5 := Tryz.sizeOf5,
  v5 := Tryz.zeroValue5,
  t9 := Tryz.underlying9,
  a9 := Tryz.isAgg9,
  z9 := Tryz.sizeOf9,
  v9 := Tryz.zeroValue9,
  t22 := Tryz.underlying22,
  a22 := Tryz.isAgg22,
  z22 := Tryz.sizeOf22,
  v22 := Tryz.zeroValue22,
  t25 := Tryz.underlying150,
  a25 := Tryz.isAgg150,
  z25 := Tryz.sizeOf150,
  v25 := Tryz.zeroValue150,
  t39 := Tryz.underlying172,
  a39 := Tryz.isAgg172,
  z39 := Tryz.sizeOf172,
  v39 := Tryz.zeroValue172,
  t45 := Tryz.underlying197,
  a45 := Tryz.isAgg197,
  z45 := Tryz.sizeOf197,
  v45 := Tryz.zeroValue197,
  t46 := Tryz.underlying198,
  a46 := Tryz.isAgg198,
  z46 := Tryz.sizeOf198,
  v46 := Tryz.zeroValue198,
  t50 := Tryz.underlying202,
  a50 := Tryz.isAgg202,
  z50 := Tryz.sizeOf202,
  v50 := Tryz.zeroValue202,
  t53 := Tryz.underlying205,
  a53 := Tryz.isAgg205,
  z53 := Tryz.sizeOf205,
  v53 := Tryz.zeroValue205,
  t55 := Tryz.underlying207,
  a55 := Tryz.isAgg207,
  z55 := Tryz.sizeOf207,
  v55 := Tryz.zeroValue207,
  t66 := Tryz.underlying238,
  a66 := Tryz.isAgg238,
  z66 := Tryz.sizeOf238,
  v66 := Tryz.zeroValue238,
  t70 := Tryz.underlying242,
  a70 := Tryz.isAgg242,
  z70 := Tryz.sizeOf242,
  v70 := Tryz.zeroValue242,
  t76 := Tryz.underlying257,
  a76 := Tryz.isAgg257,
  z76 := Tryz.sizeOf257,
  v76 := Tryz.zeroValue257,
  t77 := Tryz.underlying85,
  a77 := Tryz.isAgg85,
  z77 := Tryz.sizeOf85,
  v77 := Tryz.zeroValue85}
def ren135 : Go.Shelf.Ren := ⟨fun | 6 => 135 | 8 => 141 | 9 => 171 | 19 => 182 | 20 => 183 | 21 => 216 | 22 => 217 | 23 => 218 | 24 => 219 | 25 => 220 | 26 => 221 | 27 => 222 | 28 => 223 | 29 => 224 | 36 => 245 | 31 => 227 | 32 => 228 | 37 => 246 | 38 => 247 | 39 => 248 | 41 => 252 | n => n, fun | 27 => 27 | 29 => 9 | 3 => 3 | 32 => 172 | 26 => 27 | 0 => 0 | 44 => 205 | 46 => 207 | 4 => 4 | 36 => 198 | 35 => 197 | 41 => 202 | 5 => 5 | 9 => 9 | 53 => 238 | 57 => 242 | 63 => 257 | 64 => 85 | n => n, fun | n => n⟩
theorem lay135 : Go.Proofs.SlLaysM.n6 Tryz.prog ren135 := {
  mixed := by kernel_rfl,
  f6 := ⟨Tryz.f135.name, by decide, Tryz.func135.trans (congrArg some (by kernel_rfl))⟩,
  f8 := Tryz.func141.trans (congrArg some (by kernel_rfl)),
  f9 := ⟨Tryz.f171.name, by decide, Tryz.func171.trans (congrArg some (by kernel_rfl))⟩,
  f19 := Tryz.func182.trans (congrArg some (by kernel_rfl)),
  f20 := Tryz.func183.trans (congrArg some (by kernel_rfl)),
  f21 := ⟨Tryz.f216.name, by decide, Tryz.func216.trans (congrArg some (by kernel_rfl))⟩,
  f22 := ⟨Tryz.f217.name, by decide, Tryz.func217.trans (congrArg some (by kernel_rfl))⟩,
  f23 := ⟨Tryz.f218.name, by decide, Tryz.func218.trans (congrArg some (by kernel_rfl))⟩,
  f24 := ⟨Tryz.f219.name, by decide, Tryz.func219.trans (congrArg some (by kernel_rfl))⟩,
  f25 := ⟨Tryz.f220.name, by decide, Tryz.func220.trans (congrArg some (by kernel_rfl))⟩,
  f26 := ⟨Tryz.f221.name, by decide, Tryz.func221.trans (congrArg some (by kernel_rfl))⟩,
  f27 := ⟨Tryz.f222.name, by decide, Tryz.func222.trans (congrArg some (by kernel_rfl))⟩,
  f28 := ⟨Tryz.f223.name, by decide, Tryz.func223.trans (congrArg some (by kernel_rfl))⟩,
  f29 := ⟨Tryz.f224.name, by decide, Tryz.func224.trans (congrArg some (by kernel_rfl))⟩,
  f31 := Tryz.func227.trans (congrArg some (by kernel_rfl)),
  f32 := Tryz.func228.trans (congrArg some (by kernel_rfl)),
  f36 := ⟨Tryz.f245.name, by decide, Tryz.func245.trans (congrArg some (by kernel_rfl))⟩,
  f37 := ⟨Tryz.f246.name, by decide, Tryz.func246.trans (congrArg some (by kernel_rfl))⟩,
  f38 := ⟨Tryz.f247.name, by decide, Tryz.func247.trans (congrArg some (by kernel_rfl))⟩,
  f39 := ⟨Tryz.f248.name, by decide, Tryz.func248.trans (congrArg some (by kernel_rfl))⟩,
  f41 := ⟨Tryz.f252.name, by decide, Tryz.func252.trans (congrArg some (by kernel_rfl))⟩,
  t0 := Tryz.underlying0,
  a0 := Tryz.isAgg0,
  z0 := Tryz.sizeOf0,
  v0 := Tryz.zeroValue0,
  t3 := Tryz.underlying3,
  a3 := Tryz.isAgg3,
  z3 := Tryz.sizeOf3,
  v3 := Tryz.zeroValue3,
  t4 := Tryz.underlying4,
  a4 := Tryz.isAgg4,
  z4 := Tryz.sizeOf4,
  v4 := Tryz.zeroValue4,
  t5 := Tryz.underlying5,
  a5 := Tryz.isAgg5,
  z5 := Tryz.sizeOf5,
  v5 := Tryz.zeroValue5,
  t9 := Tryz.underlying9,
  a9 := Tryz.isAgg9,
  z9 := Tryz.sizeOf9,
  v9 := Tryz.zeroValue9,
  t26 := Tryz.underlying27,
  a26 := Tryz.isAgg27,
  z26 := Tryz.sizeOf27,
  v26 := Tryz.zeroValue27,
  t27 := Tryz.underlying27,
  a27 := Tryz.isAgg27,
  z27 := Tryz.sizeOf27,
  v27 := Tryz.zeroValue27,
  t29 := Tryz.underlying9,
  a29 := Tryz.isAgg9,
  z29 := Tryz.sizeOf9,
  v29 := Tryz.zeroValue9,
  t32 := Tryz.underlying172,
  a32 := Tryz.isAgg172,
  z32 := Tryz.sizeOf172,
  v32 := Tryz.zeroValue172,
  t35 := Tryz.underlying197,
  a35 := Tryz.isAgg197,
  z35 := Tryz.sizeOf197,
  v35 := Tryz.zeroValue197,
  t36 := Tryz.underlying198,
  a36 := Tryz.isAgg198,
  z36 := Tryz.sizeOf198,
  v36 := Tryz.zeroValue198,
  t41 := Tryz.underlying202,
  a41 := Tryz.isAgg202,
  z41 := Tryz.sizeOf202,
  v41 := Tryz.zeroValue202,
  t44 := Tryz.underlying205,
  a44 := Tryz.isAgg205,
  z44 := Tryz.sizeOf205,
  v44 := Tryz.zeroValue205,
  t46 := Tryz.underlying207,
  a46 := Tryz.isAgg207,
  z46 := Tryz.sizeOf207,
  v46 := Tryz.zeroValue207,
  t53 := Tryz.underlying238,
  a53 := Tryz.isAgg238,
  z53 := Tryz.sizeOf238,
  v53 := Tryz.zeroValue238,
  t57 := Tryz.underlying242,
  a57 := Tryz.isAgg242,
  z57 := Tryz.sizeOf242,
  v57 := Tryz.zeroValue242,
  t63 := Tryz.underlying257,
  a63 := Tryz.isAgg257,
  z63 := Tryz.sizeOf257,
  v63 := Tryz.zeroValue257,
  t64 := Tryz.underlying85,
  a64 := Tryz.isAgg85,
  z64 := Tryz.sizeOf85,
  v64 := Tryz.zeroValue85}
def renK144 : Go.Shelf.Ren := ⟨fun | 7 => 97 | 10 => 144 | n => n, fun | 23 => 119 | 26 => 9 | 3 => 4 | 28 => 145 | 0 => 0 | 27 => 144 | 33 => 151 | 4 => 4 | n => n, fun | n => n⟩
theorem layK144 : Go.Proofs.SlLaysZ.n7 Tryz.prog renK144 := {
  mixed := by kernel_rfl,
  f7 := ⟨Tryz.f97.name, by decide, Tryz.func97.trans (congrArg some (by kernel_rfl))⟩,
  f10 := ⟨Tryz.f144.name, by decide, Tryz.func144.trans (congrArg some (by kernel_rfl))⟩,
  t0 := Tryz.underlying0,
  a0 := Tryz.isAgg0,
  z0 := Tryz.sizeOf0,
  v0 := Tryz.zeroValue0,
  t4 := Tryz.underlying4,
  a4 := Tryz.isAgg4,
  z4 := Tryz.sizeOf4,
  v4 := Tryz.zeroValue4,
  t23 := Tryz.underlying119,
  a23 := Tryz.isAgg119,
  z23 := Tryz.sizeOf119,
  v23 := Tryz.zeroValue119,
  t26 := Tryz.underlying9,
  a26 := Tryz.isAgg9,
  z26 := Tryz.sizeOf9,
  v26 := Tryz.zeroValue9,
  t27 := Tryz.underlying144,
  a27 := Tryz.isAgg144,
  z27 := Tryz.sizeOf144,
  v27 := Tryz.zeroValue144,
  t28 := Tryz.underlying145,
  a28 := Tryz.isAgg145,
  z28 := Tryz.sizeOf145,
  v28 := Tryz.zeroValue145,
  t33 := Tryz.underlying151,
  a33 := Tryz.isAgg151,
  z33 := Tryz.sizeOf151,
  v33 := Tryz.zeroValue151}
def renT96 : Go.Shelf.Ren := ⟨fun | 6 => 96 | 8 => 143 | 9 => 135 | 11 => 185 | 13 => 141 | 12 => 171 | 23 => 182 | 24 => 183 | 14 => 216 | 15 => 217 | 16 => 218 | 17 => 219 | 18 => 220 | 19 => 221 | 20 => 222 | 21 => 223 | 22 => 224 | 25 => 245 | 26 => 227 | 27 => 228 | 28 => 246 | 29 => 247 | 30 => 248 | 31 => 252 | n => n, fun | 26 => 9 | 28 => 145 | 24 => 27 | 0 => 0 | 3 => 3 | 37 => 172 | 48 => 205 | 50 => 207 | 4 => 4 | 40 => 198 | 39 => 197 | 45 => 202 | 5 => 5 | 9 => 9 | 51 => 238 | 55 => 242 | 57 => 257 | 58 => 85 | 33 => 151 | n => n, fun | n => n⟩
theorem layT96 : Go.Proofs.SlLaysZ.n6 Tryz.prog renT96 := {
  mixed := by kernel_rfl,
  f6 := ⟨Tryz.f96.name, by decide, Tryz.func96.trans (congrArg some (by kernel_rfl))⟩,
  f8 := ⟨Tryz.f143.name, by decide, Tryz.func143.trans (congrArg some (by kernel_rfl))⟩,
  f11 := ⟨Tryz.f185.name, by decide, Tryz.func185.trans (congrArg some (by kernel_rfl))⟩,
  t0 := Tryz.underlying0,
  a0 := Tryz.isAgg0,
  z0 := Tryz.sizeOf0,
  v0 := Tryz.zeroValue0,
  t24 := Tryz.underlying27,
  a24 := Tryz.isAgg27,
  z24 := Tryz.sizeOf27,
  v24 := Tryz.zeroValue27,
  t26 := Tryz.underlying9,
  a26 := Tryz.isAgg9,
  z26 := Tryz.sizeOf9,
  v26 := Tryz.zeroValue9,
  t28 := Tryz.underlying145,
  a28 := Tryz.isAgg145,
  z28 := Tryz.sizeOf145,
  v28 := Tryz.zeroValue145,
  i26 := by kernel_rfl}
end Go.Proofs.YtfjdjbdnnoijgaaGreat
namespace Go.Proofs.YtfjdjbdnnoijgaaGreat
open Go.RowKit
set_option maxRecDepth 10000
structure Role where
  Owner : ByteArray
  Word : ByteArray
def encRole (x : Role) : List Value := [.string x.Owner, .string x.Word]
def beqRole (x y : Role) : Bool := (beqS x.Owner y.Owner) && ((beqS x.Word y.Word) && true)
theorem beqRole_iff {x y : Role} : beqRole x y = true ↔ x = y := by
  cases x; cases y; simp [beqRole, beqS_iff]
theorem lenRole (x : Role) : (encRole x).length = 2 := rfl
theorem oneRole (x : Role) : ∀ u ∈ encRole x, u.oneCell' = true := by
  intro u hu
  simp only [encRole, List.mem_cons, List.not_mem_nil, or_false] at hu
  rcases hu with rfl | rfl <;> rfl
structure Cred where
  Kind : Int
  Head : Role
  Who : ByteArray
  B : Role
  C : Role
  Word2 : ByteArray
def encCred (x : Cred) : List Value := [.int .i64 x.Kind, .string x.Head.Owner, .string x.Head.Word, .string x.Who, .string x.B.Owner, .string x.B.Word, .string x.C.Owner, .string x.C.Word, .string x.Word2]
def beqCred (x y : Cred) : Bool := (x.Kind == y.Kind) && ((beqRole x.Head y.Head) && ((beqS x.Who y.Who) && ((beqRole x.B y.B) && ((beqRole x.C y.C) && ((beqS x.Word2 y.Word2) && true)))))
theorem beqCred_iff {x y : Cred} : beqCred x y = true ↔ x = y := by
  cases x; cases y; simp [beqCred, beqS_iff, beqRole_iff]
theorem lenCred (x : Cred) : (encCred x).length = 9 := rfl
theorem oneCred (x : Cred) : ∀ u ∈ encCred x, u.oneCell' = true := by
  intro u hu
  simp only [encCred, List.mem_cons, List.not_mem_nil, or_false] at hu
  rcases hu with rfl | rfl | rfl | rfl | rfl | rfl | rfl | rfl | rfl <;> rfl
structure Fact where
  Role : Role
  Who : ByteArray
def encFact (x : Fact) : List Value := [.string x.Role.Owner, .string x.Role.Word, .string x.Who]
def beqFact (x y : Fact) : Bool := (beqRole x.Role y.Role) && ((beqS x.Who y.Who) && true)
theorem beqFact_iff {x y : Fact} : beqFact x y = true ↔ x = y := by
  cases x; cases y; simp [beqFact, beqS_iff, beqRole_iff]
theorem lenFact (x : Fact) : (encFact x).length = 3 := rfl
theorem oneFact (x : Fact) : ∀ u ∈ encFact x, u.oneCell' = true := by
  intro u hu
  simp only [encFact, List.mem_cons, List.not_mem_nil, or_false] at hu
  rcases hu with rfl | rfl | rfl <;> rfl
structure Person where
  Name : ByteArray
  Issued : Int
  Member : Int
  Roles : Int
  Peopled : Int
def encPerson (x : Person) : List Value := [.string x.Name, .int .i64 x.Issued, .int .i64 x.Member, .int .i64 x.Roles, .int .i64 x.Peopled]
def beqPerson (x y : Person) : Bool := (beqS x.Name y.Name) && ((x.Issued == y.Issued) && ((x.Member == y.Member) && ((x.Roles == y.Roles) && ((x.Peopled == y.Peopled) && true))))
theorem beqPerson_iff {x y : Person} : beqPerson x y = true ↔ x = y := by
  cases x; cases y; simp [beqPerson, beqS_iff]
theorem lenPerson (x : Person) : (encPerson x).length = 5 := rfl
theorem onePerson (x : Person) : ∀ u ∈ encPerson x, u.oneCell' = true := by
  intro u hu
  simp only [encPerson, List.mem_cons, List.not_mem_nil, or_false] at hu
  rcases hu with rfl | rfl | rfl | rfl | rfl <;> rfl
noncomputable def m_slices_Clone_Cred (a0 : List Cred) : Option (List Cred) :=
  (((appB 136 ([]) a0)).bind fun l8 => some l8)
noncomputable def m_slices_IndexFunc_Cred_L1 (f1 : Cred → Option Bool) : List Cred → Nat → Option Int
  | [], _ => some (-1)
  | x36 :: xs37, i35 => (((f1 x36)).bind fun r65 => (if r65 then some (i35 : Int) else (m_slices_IndexFunc_Cred_L1 f1 xs37 (i35 + 1))))
noncomputable def m_slices_IndexFunc_Cred (a0 : List Cred) (f1 : Cred → Option Bool) : Option Int :=
  m_slices_IndexFunc_Cred_L1 f1 a0 0
noncomputable def m_slices_DeleteFunc_Cred_L1 (f1 : Cred → Option Bool) : Nat → (List Cred) → Int → Int → Option (List Cred)
  | 0, _, _, _ => none
  | n321 + 1, l249, x252, x253 => (if (decide (x253 < ((l249.length : Int)))) then (((((idx l249 x253)).bind fun x364 => (((f1 x364)).bind fun r369 => (if (!r369) then (((idx l249 x252)).bind fun x376 => some (((l249.set (Int.toNat x252) x364)), ((IntKind.i64.wrap (x252 + 1))))) else some (l249, x252)))) : Option (((List Cred) × Int))).bind fun (l348, x351) => (m_slices_DeleteFunc_Cred_L1 f1 n321 l348 x351 ((IntKind.i64.wrap (x253 + 1))))) else (((chk (decide (0 ≤ x252) && decide (x252 ≤ (l249.length : Int))))).bind fun _ => (((chk (decide (0 ≤ x252) && decide (x252 ≤ (((clearT l249 (Int.toNat x252) (⟨0, (⟨zS, zS⟩ : Role), zS, (⟨zS, zS⟩ : Role), (⟨zS, zS⟩ : Role), zS⟩ : Cred))).length : Int))))).bind fun _ => some (((clearT l249 (Int.toNat x252) (⟨0, (⟨zS, zS⟩ : Role), zS, (⟨zS, zS⟩ : Role), (⟨zS, zS⟩ : Role), zS⟩ : Cred))).take (Int.toNat x252)))))
noncomputable def m_slices_DeleteFunc_Cred (a0 : List Cred) (f1 : Cred → Option Bool) : Option (List Cred) :=
  (((m_slices_IndexFunc_Cred a0 f1)).bind fun r1 => (if (r1 == ((-1))) then some a0 else m_slices_DeleteFunc_Cred_L1 f1 FUEL a0 r1 ((IntKind.i64.wrap (r1 + 1)))))
noncomputable def m_internal_stringslite_IndexByte (a0 : ByteArray) (a1 : Int) : Option Int :=
  some (xIndexByte a0 a1)
noncomputable def m_strings_IndexByte (a0 : ByteArray) (a1 : Int) : Option Int :=
  (((m_internal_stringslite_IndexByte a0 a1)).bind fun r1 => some r1)
noncomputable def m_name_only_L1  : List Int → Option Bool
  | [] => some true
  | x42 :: xs43 => (((m_strings_IndexByte ((⟨#[97, 98, 99, 100, 101, 102, 103, 104, 105, 106, 107, 108, 109, 110, 111, 112, 113, 114, 115, 116, 117, 118, 119, 120, 121, 122, 48, 49, 50, 51, 52, 53, 54, 55, 56, 57, 45]⟩ : ByteArray)) x42)).bind fun r69 => (if (decide (r69 < 0)) then some false else (m_name_only_L1 xs43)))
noncomputable def m_name_only (a0 : ByteArray) : Option Bool :=
  (((bytesB a0)).bind fun l1 => m_name_only_L1 l1)
noncomputable def m_name_Right (a0 : ByteArray) : Option Bool :=
  (((if (decide (((a0.size : Int)) ≥ 1)) then some ((decide (((a0.size : Int)) ≤ 16))) else some false) : Option Bool).bind fun x2 => (((if x2 then (((idxS a0 0)).bind fun c40 => (((m_strings_IndexByte ((⟨#[97, 98, 99, 100, 101, 102, 103, 104, 105, 106, 107, 108, 109, 110, 111, 112, 113, 114, 115, 116, 117, 118, 119, 120, 121, 122]⟩ : ByteArray)) ((c40.toNat : Int)))).bind fun r42 => some ((decide (r42 ≥ 0))))) else some false) : Option Bool).bind fun x14 => (((if x14 then (((m_name_only a0)).bind fun r33 => some r33) else some false) : Option Bool).bind fun x24 => some x24)))
noncomputable def m_role_Right (a0 : Role) : Option Bool :=
  (((m_name_Right a0.Owner)).bind fun r3 => (((if r3 then (((m_name_Right a0.Word)).bind fun r19 => some r19) else some false) : Option Bool).bind fun x10 => some x10))
noncomputable def m_internal_bytealg_CompareString (a0 : ByteArray) (a1 : ByteArray) : Option Int :=
  some (xCompareS a0 a1)
noncomputable def m_strings_Compare (a0 : ByteArray) (a1 : ByteArray) : Option Int :=
  (((m_internal_bytealg_CompareString a0 a1)).bind fun r1 => some r1)
noncomputable def m_cmp_Or_int_L1  : List Int → Option Int
  | [] => some 0
  | x27 :: xs28 => (if (x27 != 0) then some x27 else (m_cmp_Or_int_L1 xs28))
noncomputable def m_cmp_Or_int (a0 : List Int) : Option Int :=
  m_cmp_Or_int_L1 a0
noncomputable def m_role_Compare (a0 : Role) (a1 : Role) : Option Int :=
  (((m_strings_Compare a0.Owner a1.Owner)).bind fun r27 => (((m_strings_Compare a0.Word a1.Word)).bind fun r30 => (((m_cmp_Or_int ([r27, r30]))).bind fun r35 => some r35)))
noncomputable def m_cred_Right (a0 : Cred) : Option Bool :=
  (((m_role_Right a0.Head)).bind fun r6 => (((if (a0.Kind == 1) then (((if r6 then (((m_name_Right a0.Who)).bind fun r330 => some r330) else some false) : Option Bool).bind fun x316 => some (Sum.inr (x316, ((⟨a0.Kind, a0.Head, a0.Who, (⟨zS, zS⟩ : Role), (⟨zS, zS⟩ : Role), zS⟩ : Cred))))) else (if (a0.Kind == 2) then (((if r6 then (((m_role_Right a0.B)).bind fun r393 => some r393) else some false) : Option Bool).bind fun x379 => some (Sum.inr (x379, ((⟨a0.Kind, a0.Head, zS, a0.B, (⟨zS, zS⟩ : Role), zS⟩ : Cred))))) else (if (a0.Kind == 3) then (((if r6 then (((m_role_Right a0.B)).bind fun r448 => some r448) else some false) : Option Bool).bind fun x407 => (((if x407 then some ((beqS a0.B.Owner a0.Head.Owner)) else some false) : Option Bool).bind fun x415 => (((if x415 then (((m_name_Right a0.Word2)).bind fun r437 => some r437) else some false) : Option Bool).bind fun x426 => some (Sum.inr (x426, ((⟨a0.Kind, a0.Head, zS, a0.B, (⟨zS, zS⟩ : Role), a0.Word2⟩ : Cred))))))) else (if (a0.Kind == 4) then (((if r6 then (((m_role_Right a0.B)).bind fun r509 => some r509) else some false) : Option Bool).bind fun x462 => (((if x462 then (((m_role_Right a0.C)).bind fun r502 => some r502) else some false) : Option Bool).bind fun x473 => (((if x473 then (((m_role_Compare a0.B a0.C)).bind fun r495 => some ((decide (r495 < 0)))) else some false) : Option Bool).bind fun x484 => some (Sum.inr (x484, ((⟨a0.Kind, a0.Head, zS, a0.B, a0.C, zS⟩ : Cred))))))) else some (Sum.inl false))))) : Option ((Bool ⊕ ((Bool × Cred))))).bind fun s => match s with | .inl q512 => some q512 | .inr (x251, x252) => (((if x251 then some ((beqCred x252 a0)) else some false) : Option Bool).bind fun x259 => some x259)))
noncomputable def m_cred_Set_c1 (a0 : Cred) : Option Bool :=
  (((m_cred_Right a0)).bind fun r3 => some (!r3))
noncomputable def m_tape_Pen_Number_w_L1  : Nat → Int → (List Int) → Option ((Bool × (List Int)))
  | 0, _, _ => none
  | n93 + 1, x67, l69 => (if (decide (x67 ≥ 128)) then (((appB 1 l69 ([(IntKind.u8.wrap (BitVec.ofInt (IntKind.bits .u8) ((IntKind.u8.wrap x67)) ||| BitVec.ofInt (IntKind.bits .u8) 128).toNat)]))).bind fun l99 => (m_tape_Pen_Number_w_L1 n93 ((Int.fdiv x67 (2 ^ min (Int.toNat 7) (IntKind.bits .i64)))) l99)) else (((appB 1 l69 ([(IntKind.u8.wrap x67)]))).bind fun l110 => some (true, l110)))
noncomputable def m_tape_Pen_Number_w (a0_b : List Int) (a1 : Int) : Option ((Bool × (List Int))) :=
  (if (decide (a1 < 0)) then some (false, a0_b) else m_tape_Pen_Number_w_L1 FUEL a1 a0_b)
noncomputable def m_tape_Pen_Text_w (a0_b : List Int) (a1 : List Int) : Option ((Bool × (List Int))) :=
  (if (decide (((a1.length : Int)) > 2048)) then some (false, a0_b) else (((m_tape_Pen_Number_w a0_b ((a1.length : Int)))).bind fun r2 => (((appB 1 r2.2 a1)).bind fun l14 => some (true, l14))))
noncomputable def m_name_Put_w (a0_b : List Int) (a1 : ByteArray) : Option ((Bool × (List Int))) :=
  (((m_name_Right a1)).bind fun r1 => (((if r1 then (((bytesB a1)).bind fun l40 => (((m_tape_Pen_Text_w a0_b l40)).bind fun r48 => some (r48.1, r48.2))) else some (false, a0_b)) : Option ((Bool × (List Int)))).bind fun (x26, l28) => some (x26, l28)))
noncomputable def m_role_Put_w (a0_b : List Int) (a1 : Role) : Option ((Bool × (List Int))) :=
  (((m_role_Right a1)).bind fun r3 => (((if r3 then (((m_name_Put_w a0_b a1.Owner)).bind fun r76 => some (r76.1, r76.2)) else some (false, a0_b)) : Option ((Bool × (List Int)))).bind fun (x20, l22) => (((if x20 then (((m_name_Put_w l22 a1.Word)).bind fun r60 => some (r60.1, r60.2)) else some (false, l22)) : Option ((Bool × (List Int)))).bind fun (x46, l48) => some (x46, l48))))
noncomputable def m_bytes_Clone (a0 : List Int) : Option (List Int) :=
  (((appB 1 ([]) a0)).bind fun l8 => some l8)
noncomputable def m_tape_Pen_Bytes (a0_b : List Int) : Option (List Int) :=
  (((m_bytes_Clone a0_b)).bind fun r4 => some r4)
noncomputable def m_cred_Bytes (a0 : Cred) : Option (List Int) :=
  (((m_cred_Right a0)).bind fun r3 => (if (!r3) then some [] else (((m_tape_Pen_Number_w ([]) a0.Kind)).bind fun r9 => (((m_role_Put_w r9.2 a0.Head)).bind fun r21 => (((if (a0.Kind == 1) then (((m_name_Put_w r21.2 a0.Who)).bind fun r130 => some r130.2) else (if (a0.Kind == 2) then (((m_role_Put_w r21.2 a0.B)).bind fun r143 => some r143.2) else (if (a0.Kind == 3) then (((m_role_Put_w r21.2 a0.B)).bind fun r156 => (((m_name_Put_w r156.2 a0.Word2)).bind fun r168 => some r168.2)) else (if (a0.Kind == 4) then (((m_role_Put_w r21.2 a0.B)).bind fun r181 => (((m_role_Put_w r181.2 a0.C)).bind fun r193 => some r193.2)) else some r21.2)))) : Option (List Int)).bind fun l111 => (((m_tape_Pen_Bytes l111)).bind fun r118 => some r118))))))
noncomputable def m_bytes_Compare (a0 : List Int) (a1 : List Int) : Option Int :=
  some (xCompareB a0 a1)
noncomputable def m_cred_Compare (a0 : Cred) (a1 : Cred) : Option Int :=
  (((m_cred_Bytes a0)).bind fun r43 => (((m_cred_Bytes a1)).bind fun r51 => (((m_bytes_Compare r43 r51)).bind fun r59 => some r59)))
noncomputable def m_slices_Compact_Cred_L2 (x2891 : Int) : Nat → (List Cred) → Int → Int → Option (((List Cred) × Int))
  | 0, _, _, _ => none
  | n4232 + 1, l4112, x4115, x4116 => (if (decide (x4116 < (((l4112.length - (Int.toNat x2891) : Nat) : Int)))) then (((((idx (l4112.drop (Int.toNat x2891)) x4116)).bind fun x4319 => (((idx (l4112.drop (Int.toNat x2891)) ((IntKind.i64.wrap (x4116 - 1))))).bind fun x4324 => (if (!(beqCred x4319 x4324)) then (((idx (l4112.drop (Int.toNat x2891)) x4116)).bind fun x4330 => (((idx l4112 x4115)).bind fun x4335 => some (((l4112.set (Int.toNat x4115) x4330)), ((IntKind.i64.wrap (x4115 + 1)))))) else some (l4112, x4115)))) : Option (((List Cred) × Int))).bind fun (l4283, x4286) => (m_slices_Compact_Cred_L2 x2891 n4232 l4283 x4286 ((IntKind.i64.wrap (x4116 + 1))))) else some (l4112, x4115))
noncomputable def m_slices_Compact_Cred_L1 (a0 : List Cred) : Nat → Int → Option (List Cred)
  | 0, _ => none
  | n3617 + 1, x2891 => (if (decide (x2891 < ((a0.length : Int)))) then (((idx a0 x2891)).bind fun x3644 => (((idx a0 ((IntKind.i64.wrap (x2891 - 1))))).bind fun x3649 => (if (beqCred x3644 x3649) then (((chk (decide (0 ≤ x2891) && decide (x2891 ≤ (a0.length : Int))))).bind fun _ => ((m_slices_Compact_Cred_L2 x2891 FUEL a0 x2891 1 : Option (((List Cred) × Int))).bind fun (l3988, x3991) => (((chk (decide (0 ≤ x3991) && decide (x3991 ≤ (l3988.length : Int))))).bind fun _ => (((chk (decide (0 ≤ x3991) && decide (x3991 ≤ (((clearT l3988 (Int.toNat x3991) (⟨0, (⟨zS, zS⟩ : Role), zS, (⟨zS, zS⟩ : Role), (⟨zS, zS⟩ : Role), zS⟩ : Cred))).length : Int))))).bind fun _ => some (((clearT l3988 (Int.toNat x3991) (⟨0, (⟨zS, zS⟩ : Role), zS, (⟨zS, zS⟩ : Role), (⟨zS, zS⟩ : Role), zS⟩ : Cred))).take (Int.toNat x3991)))))) else (m_slices_Compact_Cred_L1 a0 n3617 ((IntKind.i64.wrap (x2891 + 1))))))) else some a0)
noncomputable def m_slices_Compact_Cred (a0 : List Cred) : Option (List Cred) :=
  (if (decide (((a0.length : Int)) < 2)) then some a0 else m_slices_Compact_Cred_L1 a0 FUEL 1)
noncomputable def m_cred_Set (a0 : List Cred) : Option (List Cred) :=
  (((m_slices_Clone_Cred a0)).bind fun r1 => (((m_slices_DeleteFunc_Cred r1 (fun (x : Cred) => m_cred_Set_c1 x))).bind fun r9 => (((sortF (fun (x : (Cred × Cred)) => m_cred_Compare x.1 x.2) r9)).bind fun r21 => (((m_slices_Compact_Cred r21)).bind fun r32 => some r32))))
noncomputable def m_cred_Roles (a0 : Cred) : Option (List Role) :=
  (((m_cred_Right a0)).bind fun r3 => (if (!r3) then some [] else (((if (a0.Kind != 1) then (((appB 32 ([a0.Head]) ([a0.B]))).bind fun l60 => some l60) else some ([a0.Head])) : Option (List Role)).bind fun l19 => (((if (a0.Kind == 4) then (((appB 32 l19 ([a0.C]))).bind fun l48 => some l48) else some l19) : Option (List Role)).bind fun l36 => some l36))))
noncomputable def m_slices_Compact_string_L2 (x2891 : Int) : Nat → (List ByteArray) → Int → Int → Option (((List ByteArray) × Int))
  | 0, _, _, _ => none
  | n4232 + 1, l4112, x4115, x4116 => (if (decide (x4116 < (((l4112.length - (Int.toNat x2891) : Nat) : Int)))) then (((((idx (l4112.drop (Int.toNat x2891)) x4116)).bind fun x4319 => (((idx (l4112.drop (Int.toNat x2891)) ((IntKind.i64.wrap (x4116 - 1))))).bind fun x4324 => (if (!(beqS x4319 x4324)) then (((idx (l4112.drop (Int.toNat x2891)) x4116)).bind fun x4330 => (((idx l4112 x4115)).bind fun x4335 => some (((l4112.set (Int.toNat x4115) x4330)), ((IntKind.i64.wrap (x4115 + 1)))))) else some (l4112, x4115)))) : Option (((List ByteArray) × Int))).bind fun (l4283, x4286) => (m_slices_Compact_string_L2 x2891 n4232 l4283 x4286 ((IntKind.i64.wrap (x4116 + 1))))) else some (l4112, x4115))
noncomputable def m_slices_Compact_string_L1 (a0 : List ByteArray) : Nat → Int → Option (List ByteArray)
  | 0, _ => none
  | n3617 + 1, x2891 => (if (decide (x2891 < ((a0.length : Int)))) then (((idx a0 x2891)).bind fun x3644 => (((idx a0 ((IntKind.i64.wrap (x2891 - 1))))).bind fun x3649 => (if (beqS x3644 x3649) then (((chk (decide (0 ≤ x2891) && decide (x2891 ≤ (a0.length : Int))))).bind fun _ => ((m_slices_Compact_string_L2 x2891 FUEL a0 x2891 1 : Option (((List ByteArray) × Int))).bind fun (l3988, x3991) => (((chk (decide (0 ≤ x3991) && decide (x3991 ≤ (l3988.length : Int))))).bind fun _ => (((chk (decide (0 ≤ x3991) && decide (x3991 ≤ (((clearT l3988 (Int.toNat x3991) zS)).length : Int))))).bind fun _ => some (((clearT l3988 (Int.toNat x3991) zS)).take (Int.toNat x3991)))))) else (m_slices_Compact_string_L1 a0 n3617 ((IntKind.i64.wrap (x2891 + 1))))))) else some a0)
noncomputable def m_slices_Compact_string (a0 : List ByteArray) : Option (List ByteArray) :=
  (if (decide (((a0.length : Int)) < 2)) then some a0 else m_slices_Compact_string_L1 a0 FUEL 1)
noncomputable def m_name_Set_L1  : List ByteArray → (List ByteArray) → Option (List ByteArray)
  | [], l90 => (((sortS l90)).bind fun r133 => (((m_slices_Compact_string r133)).bind fun r144 => some r144))
  | x68 :: xs69, l90 => (((m_name_Right x68)).bind fun r121 => (if r121 then (((appB 16 l90 ([x68]))).bind fun l127 => (m_name_Set_L1 xs69 l127)) else (m_name_Set_L1 xs69 l90)))
noncomputable def m_name_Set (a0 : List ByteArray) : Option (List ByteArray) :=
  m_name_Set_L1 a0 ([])
noncomputable def m_census_names_L2  : List Role → (List ByteArray) → Option (List ByteArray)
  | [], l1042 => some l1042
  | x1021 :: xs1022, l1042 => (((appB 16 l1042 ([x1021.Owner]))).bind fun l1083 => (m_census_names_L2 xs1022 l1083))
noncomputable def m_census_names_L1  : List Cred → (List ByteArray) → Option (List ByteArray)
  | [], l727 => (((m_name_Set l727)).bind fun r1089 => some r1089)
  | x546 :: xs547, l727 => (((appB 16 l727 ([x546.Who]))).bind fun l924 => (((m_cred_Roles x546)).bind fun r930 => ((m_census_names_L2 r930 l924 : Option (List ByteArray)).bind fun l1008 => (m_census_names_L1 xs547 l1008))))
noncomputable def m_census_names (a0 : List Cred) : Option (List ByteArray) :=
  m_census_names_L1 a0 ([])
noncomputable def m_slices_Index_Cred_L1 (a1 : Cred) : List Cred → Nat → Option Int
  | [], _ => some (-1)
  | x47 :: xs48, i46 => (if (beqCred a1 x47) then some (i46 : Int) else (m_slices_Index_Cred_L1 a1 xs48 (i46 + 1)))
noncomputable def m_slices_Index_Cred (a0 : List Cred) (a1 : Cred) : Option Int :=
  m_slices_Index_Cred_L1 a1 a0 0
noncomputable def m_slices_Contains_Cred (a0 : List Cred) (a1 : Cred) : Option Bool :=
  (((m_slices_Index_Cred a0 a1)).bind fun r3 => some (decide (r3 ≥ 0)))
noncomputable def m_cred_Has (a0 : List Cred) (a1 : Cred) : Option Bool :=
  (((m_slices_Contains_Cred a0 a1)).bind fun r3 => some r3)
noncomputable def m_model_Model_note_w_L1 (a1 : Cred) (a0_words : List (ByteArray × (List Cred))) (l27 : List Cred) : List Role → (List (Role × (List Cred))) → Option (((List Cred) × (List (Role × (List Cred))) × (List (ByteArray × (List Cred)))))
  | [], l354 => (if (a1.Kind == 3) then (((appB 136 (((mget beqS a0_words a1.Word2).getD [])) ([a1]))).bind fun l565 => some (l27, l354, (mput beqS a0_words a1.Word2 l565))) else some (l27, l354, a0_words))
  | x279 :: xs280, l354 => (((appB 136 (((mget beqRole l354 x279).getD [])) ([a1]))).bind fun l496 => (m_model_Model_note_w_L1 a1 a0_words l27 xs280 ((mput beqRole l354 x279 l496))))
noncomputable def m_model_Model_note_w (a0_in_ : List (Role × (List (ByteArray × Bool)))) (a0_creds : List Cred) (a0_uses : List (Role × (List Cred))) (a0_words : List (ByteArray × (List Cred))) (a0_todo : List Fact) (a0_n : Int) (a1 : Cred) : Option (((List Cred) × (List (Role × (List Cred))) × (List (ByteArray × (List Cred))))) :=
  (((appB 136 a0_creds ([a1]))).bind fun l27 => (((m_cred_Roles a1)).bind fun r36 => (((chk (decide (0 ≤ 1) && decide (1 ≤ (r36.length : Int))))).bind fun _ => m_model_Model_note_w_L1 a1 a0_words l27 ((r36.drop (Int.toNat 1))) a0_uses)))
noncomputable def m_model_Model_tell_w (a0_in_ : List (Role × (List (ByteArray × Bool)))) (a0_creds : List Cred) (a0_uses : List (Role × (List Cred))) (a0_words : List (ByteArray × (List Cred))) (a0_todo : List Fact) (a0_n : Int) (a1 : Role) (a2 : ByteArray) : Option (((List (Role × (List (ByteArray × Bool)))) × (List Fact) × Int)) :=
  (if (mgetD beqS (((mget beqRole a0_in_ a1).getD [])) a2 false) then some (a0_in_, a0_todo, a0_n) else (((if (mget beqRole a0_in_ a1).isNone then (((mnew beqRole a0_in_ a1 ([]))).bind fun l131 => some l131) else some a0_in_) : Option (List (Role × (List (ByteArray × Bool))))).bind fun l38 => (((mupd beqRole beqS l38 a1 a2 true)).bind fun l66 => (((appB 48 a0_todo ([(⟨a1, a2⟩ : Fact)]))).bind fun l96 => some (l66, l96, (IntKind.i64.wrap (a0_n + 1)))))))
noncomputable def m_maps_Keys_map_stringbool_string_bool_ (a0 : List (ByteArray × Bool)) : Option Unit :=
  some ()
noncomputable def m_model_Model_Members (a0_in_ : List (Role × (List (ByteArray × Bool)))) (a0_creds : List Cred) (a0_uses : List (Role × (List Cred))) (a0_words : List (ByteArray × (List Cred))) (a0_todo : List Fact) (a0_n : Int) (a1 : Role) : Option (List ByteArray) :=
  (((m_maps_Keys_map_stringbool_string_bool_ (((mget beqRole a0_in_ a1).getD [])))).bind fun r60 => (((keysS (((mget beqRole a0_in_ a1).getD [])))).bind fun r70 => some r70))
noncomputable def m_model_Model_all_w_L1 (a0_creds : List Cred) (a0_uses : List (Role × (List Cred))) (a0_words : List (ByteArray × (List Cred))) (a2 : Role) : List ByteArray → (List (Role × (List (ByteArray × Bool)))) → (List Fact) → Int → Option (((List (Role × (List (ByteArray × Bool)))) × (List Fact) × Int))
  | [], l124, l128, x131 => some (l124, l128, x131)
  | x100 :: xs101, l124, l128, x131 => (((m_model_Model_tell_w l124 a0_creds a0_uses a0_words l128 x131 a2 x100)).bind fun r171 => (m_model_Model_all_w_L1 a0_creds a0_uses a0_words a2 xs101 r171.1 r171.2.1 r171.2.2))
noncomputable def m_model_Model_all_w (a0_in_ : List (Role × (List (ByteArray × Bool)))) (a0_creds : List Cred) (a0_uses : List (Role × (List Cred))) (a0_words : List (ByteArray × (List Cred))) (a0_todo : List Fact) (a0_n : Int) (a1 : Role) (a2 : Role) : Option (((List (Role × (List (ByteArray × Bool)))) × (List Fact) × Int)) :=
  (((m_model_Model_Members a0_in_ a0_creds a0_uses a0_words a0_todo a0_n a1)).bind fun r5 => m_model_Model_all_w_L1 a0_creds a0_uses a0_words a2 r5 a0_in_ a0_todo a0_n)
noncomputable def m_model_Model_use_w (a0_in_ : List (Role × (List (ByteArray × Bool)))) (a0_creds : List Cred) (a0_uses : List (Role × (List Cred))) (a0_words : List (ByteArray × (List Cred))) (a0_todo : List Fact) (a0_n : Int) (a1 : Cred) (a2 : Fact) : Option (((List (Role × (List (ByteArray × Bool)))) × (List Fact) × Int)) :=
  (if (a1.Kind == 2) then (((m_model_Model_tell_w a0_in_ a0_creds a0_uses a0_words a0_todo a0_n a1.Head a2.Who)).bind fun r6 => some (r6.1, r6.2.1, r6.2.2)) else (if (a1.Kind == 3) then (((m_model_Model_all_w a0_in_ a0_creds a0_uses a0_words a0_todo a0_n ((⟨a2.Who, a1.Word2⟩ : Role)) a1.Head)).bind fun r21 => some (r21.1, r21.2.1, r21.2.2)) else (if (a1.Kind == 4) then (((if (mgetD beqS (((mget beqRole a0_in_ a1.B).getD [])) a2.Who false) then some ((mgetD beqS (((mget beqRole a0_in_ a1.C).getD [])) a2.Who false)) else some false) : Option Bool).bind fun x67 => (if x67 then (((m_model_Model_tell_w a0_in_ a0_creds a0_uses a0_words a0_todo a0_n a1.Head a2.Who)).bind fun r75 => some (r75.1, r75.2.1, r75.2.2)) else some (a0_in_, a0_todo, a0_n))) else some (a0_in_, a0_todo, a0_n))))
noncomputable def m_model_Model_begin_w_L1 (a0_creds : List Cred) (a0_uses : List (Role × (List Cred))) (a0_words : List (ByteArray × (List Cred))) (a1 : Cred) : List ByteArray → (List (Role × (List (ByteArray × Bool)))) → (List Fact) → Int → Option (((List (Role × (List (ByteArray × Bool)))) × (List Fact) × Int))
  | [], l137, l141, x144 => some (l137, l141, x144)
  | x113 :: xs114, l137, l141, x144 => (((m_model_Model_use_w l137 a0_creds a0_uses a0_words l141 x144 a1 ((⟨a1.B, x113⟩ : Fact)))).bind fun r184 => (m_model_Model_begin_w_L1 a0_creds a0_uses a0_words a1 xs114 r184.1 r184.2.1 r184.2.2))
noncomputable def m_model_Model_begin_w (a0_in_ : List (Role × (List (ByteArray × Bool)))) (a0_creds : List Cred) (a0_uses : List (Role × (List Cred))) (a0_words : List (ByteArray × (List Cred))) (a0_todo : List Fact) (a0_n : Int) (a1 : Cred) : Option (((List (Role × (List (ByteArray × Bool)))) × (List Fact) × Int)) :=
  (if (a1.Kind == 1) then (((m_model_Model_tell_w a0_in_ a0_creds a0_uses a0_words a0_todo a0_n a1.Head a1.Who)).bind fun r4 => some (r4.1, r4.2.1, r4.2.2)) else (((m_model_Model_Members a0_in_ a0_creds a0_uses a0_words a0_todo a0_n a1.B)).bind fun r18 => m_model_Model_begin_w_L1 a0_creds a0_uses a0_words a1 r18 a0_in_ a0_todo a0_n))
noncomputable def m_model_Model_settle_w_L2 (x2555 : Fact) (a0_creds : List Cred) (a0_uses : List (Role × (List Cred))) (a0_words : List (ByteArray × (List Cred))) : List Cred → (List (Role × (List (ByteArray × Bool)))) → (List Fact) → Int → Option (((List (Role × (List (ByteArray × Bool)))) × (List Fact) × Int))
  | [], l2872, l2876, x2879 => some (l2872, l2876, x2879)
  | x2838 :: xs2839, l2872, l2876, x2879 => (if (mgetD beqS (((mget beqRole l2872 x2838.B).getD [])) x2555.Role.Owner false) then (((m_model_Model_tell_w l2872 a0_creds a0_uses a0_words l2876 x2879 x2838.Head x2555.Who)).bind fun r2939 => (m_model_Model_settle_w_L2 x2555 a0_creds a0_uses a0_words xs2839 r2939.1 r2939.2.1 r2939.2.2)) else (m_model_Model_settle_w_L2 x2555 a0_creds a0_uses a0_words xs2839 l2872 l2876 x2879))
noncomputable def m_model_Model_settle_w_L3 (a0_creds : List Cred) (a0_uses : List (Role × (List Cred))) (a0_words : List (ByteArray × (List Cred))) (x2555 : Fact) : List Cred → (List (Role × (List (ByteArray × Bool)))) → (List Fact) → Int → Option (((List (Role × (List (ByteArray × Bool)))) × (List Fact) × Int))
  | [], l2984, l2988, x2991 => some (l2984, l2988, x2991)
  | x2957 :: xs2958, l2984, l2988, x2991 => (((m_model_Model_use_w l2984 a0_creds a0_uses a0_words l2988 x2991 x2957 x2555)).bind fun r3037 => (m_model_Model_settle_w_L3 a0_creds a0_uses a0_words x2555 xs2958 r3037.1 r3037.2.1 r3037.2.2))
noncomputable def m_model_Model_settle_w_L1 (a0_creds : List Cred) (a0_uses : List (Role × (List Cred))) (a0_words : List (ByteArray × (List Cred))) : Nat → (List (Role × (List (ByteArray × Bool)))) → (List Fact) → Int → Option (((List (Role × (List (ByteArray × Bool)))) × (List Fact) × Int))
  | 0, _, _, _ => none
  | n2548 + 1, l2027, l2031, x2034 => (if (decide (((l2031.length : Int)) > 0)) then (((idx l2031 0)).bind fun x2555 => (((chk (decide (0 ≤ 1) && decide (1 ≤ (l2031.length : Int))))).bind fun _ => ((m_model_Model_settle_w_L3 a0_creds a0_uses a0_words x2555 (((mget beqRole a0_uses x2555.Role).getD [])) l2027 ((l2031.drop (Int.toNat 1))) x2034 : Option (((List (Role × (List (ByteArray × Bool)))) × (List Fact) × Int))).bind fun (l2677, l2681, x2684) => ((m_model_Model_settle_w_L2 x2555 a0_creds a0_uses a0_words (((mget beqS a0_words x2555.Role.Word).getD [])) l2677 l2681 x2684 : Option (((List (Role × (List (ByteArray × Bool)))) × (List Fact) × Int))).bind fun (l2822, l2826, x2829) => (m_model_Model_settle_w_L1 a0_creds a0_uses a0_words n2548 l2822 l2826 x2829))))) else some (l2027, l2031, x2034))
noncomputable def m_model_Model_settle_w (a0_in_ : List (Role × (List (ByteArray × Bool)))) (a0_creds : List Cred) (a0_uses : List (Role × (List Cred))) (a0_words : List (ByteArray × (List Cred))) (a0_todo : List Fact) (a0_n : Int) : Option (((List (Role × (List (ByteArray × Bool)))) × (List Fact) × Int)) :=
  m_model_Model_settle_w_L1 a0_creds a0_uses a0_words FUEL a0_in_ a0_todo a0_n
noncomputable def m_model_Model_Add_w_L1 (a0_n : Int) : List Cred → (List (Role × (List (ByteArray × Bool)))) → (List Cred) → (List (Role × (List Cred))) → (List (ByteArray × (List Cred))) → (List Fact) → Int → Option ((Int × (List (Role × (List (ByteArray × Bool)))) × (List Cred) × (List (Role × (List Cred))) × (List (ByteArray × (List Cred))) × (List Fact) × Int))
  | [], l500, l504, l507, l510, l514, x517 => (((m_model_Model_settle_w l500 l504 l507 l510 l514 x517)).bind fun r765 => some ((IntKind.i64.wrap (r765.2.2 - a0_n)), r765.1, l504, l507, l510, r765.2.1, r765.2.2))
  | x384 :: xs385, l500, l504, l507, l510, l514, x517 => (((m_cred_Right x384)).bind fun r710 => (((if r710 then (((m_cred_Has l504 x384)).bind fun r762 => some ((!r762))) else some false) : Option Bool).bind fun x717 => (if x717 then (((m_model_Model_note_w l500 l504 l507 l510 l514 x517 x384)).bind fun r728 => (((m_model_Model_begin_w l500 r728.1 r728.2.1 r728.2.2 l514 x517 x384)).bind fun r744 => (m_model_Model_Add_w_L1 a0_n xs385 r744.1 r728.1 r728.2.1 r728.2.2 r744.2.1 r744.2.2))) else (m_model_Model_Add_w_L1 a0_n xs385 l500 l504 l507 l510 l514 x517))))
noncomputable def m_model_Model_Add_w (a0_in_ : List (Role × (List (ByteArray × Bool)))) (a0_creds : List Cred) (a0_uses : List (Role × (List Cred))) (a0_words : List (ByteArray × (List Cred))) (a0_todo : List Fact) (a0_n : Int) (a1 : List Cred) : Option ((Int × (List (Role × (List (ByteArray × Bool)))) × (List Cred) × (List (Role × (List Cred))) × (List (ByteArray × (List Cred))) × (List Fact) × Int)) :=
  m_model_Model_Add_w_L1 a0_n a1 a0_in_ a0_creds a0_uses a0_words a0_todo a0_n
noncomputable def m_model_Of (a0 : List Cred) : Option (((List (Role × (List (ByteArray × Bool)))) × (List Cred) × (List (Role × (List Cred))) × (List (ByteArray × (List Cred))) × (List Fact) × Int)) :=
  (((m_model_Model_Add_w ([]) ([]) ([]) ([]) ([]) 0 a0)).bind fun r18 => some (r18.2.1, r18.2.2.1, r18.2.2.2.1, r18.2.2.2.2.1, r18.2.2.2.2.2.1, r18.2.2.2.2.2.2))
noncomputable def m_model_Model_Facts_c1 (a0 : Fact) (a1 : Fact) : Option Int :=
  (((m_role_Compare a0.Role a1.Role)).bind fun r27 => (((m_strings_Compare a0.Who a1.Who)).bind fun r30 => (((m_cmp_Or_int ([r27, r30]))).bind fun r35 => some r35)))
noncomputable def m_model_Model_Facts (a0_in_ : List (Role × (List (ByteArray × Bool)))) (a0_creds : List Cred) (a0_uses : List (Role × (List Cred))) (a0_words : List (ByteArray × (List Cred))) (a0_todo : List Fact) (a0_n : Int) : Option (List Fact) :=
  ((pairsB 48 (fun (a : Role) (b : ByteArray) => (⟨a, b⟩ : Fact)) a0_in_).bind fun fs => allOrders fs (fun l_f => (((sortF (fun (x : (Fact × Fact)) => m_model_Model_Facts_c1 x.1 x.2) l_f)).bind fun r4 => some r4)))
noncomputable def m_census_counted_L2  : List Fact → (List (ByteArray × Person)) → Role → Option (List (ByteArray × Person))
  | [], l422, x425 => some l422
  | x388 :: xs389, l422, x425 => (((mget beqS l422 x388.Who)).bind fun x474 => (if (!(beqRole x388.Role x425)) then (((mget beqS ((mput beqS l422 x388.Who ((⟨x474.Name, x474.Issued, x474.Member, (IntKind.i64.wrap (x474.Roles + 1)), x474.Peopled⟩ : Person)))) x388.Role.Owner)).bind fun x484 => (m_census_counted_L2 xs389 ((mput beqS ((mput beqS l422 x388.Who ((⟨x474.Name, x474.Issued, x474.Member, (IntKind.i64.wrap (x474.Roles + 1)), x474.Peopled⟩ : Person)))) x388.Role.Owner ((⟨x484.Name, x484.Issued, x484.Member, x484.Roles, (IntKind.i64.wrap (x484.Peopled + 1))⟩ : Person)))) x388.Role)) else (m_census_counted_L2 xs389 ((mput beqS l422 x388.Who ((⟨x474.Name, x474.Issued, x474.Member, (IntKind.i64.wrap (x474.Roles + 1)), x474.Peopled⟩ : Person)))) x425)))
noncomputable def m_census_counted_L3  : List Cred → (List (ByteArray × Person)) → Option (List (ByteArray × Person))
  | [], l531 => some l531
  | x498 :: xs499, l531 => (((mget beqS l531 x498.Head.Owner)).bind fun x580 => (if (x498.Kind == 1) then (((mget beqS ((mput beqS l531 x498.Head.Owner ((⟨x580.Name, (IntKind.i64.wrap (x580.Issued + 1)), x580.Member, x580.Roles, x580.Peopled⟩ : Person)))) x498.Who)).bind fun x590 => (m_census_counted_L3 xs499 ((mput beqS ((mput beqS l531 x498.Head.Owner ((⟨x580.Name, (IntKind.i64.wrap (x580.Issued + 1)), x580.Member, x580.Roles, x580.Peopled⟩ : Person)))) x498.Who ((⟨x590.Name, x590.Issued, (IntKind.i64.wrap (x590.Member + 1)), x590.Roles, x590.Peopled⟩ : Person)))))) else (m_census_counted_L3 xs499 ((mput beqS l531 x498.Head.Owner ((⟨x580.Name, (IntKind.i64.wrap (x580.Issued + 1)), x580.Member, x580.Roles, x580.Peopled⟩ : Person)))))))
noncomputable def m_census_counted_L1 (a0 : List Cred) : List ByteArray → (List (ByteArray × Person)) → Option (List (ByteArray × Person))
  | [], l89 => ((m_census_counted_L3 a0 l89 : Option (List (ByteArray × Person))).bind fun l229 => (((m_model_Of a0)).bind fun r238 => (((m_model_Model_Facts r238.1 r238.2.1 r238.2.2.1 r238.2.2.2.1 r238.2.2.2.2.1 r238.2.2.2.2.2)).bind fun r263 => ((m_census_counted_L2 r263 l229 ((⟨zS, zS⟩ : Role)) : Option (List (ByteArray × Person))).bind fun l378 => some l378))))
  | x71 :: xs72, l89 => (((mnew beqS l89 x71 ((⟨x71, 0, 0, 0, 0⟩ : Person)))).bind fun l122 => (m_census_counted_L1 a0 xs72 l122))
noncomputable def m_census_counted (a0 : List Cred) : Option (List (ByteArray × Person)) :=
  (((m_census_names a0)).bind fun r5 => m_census_counted_L1 a0 r5 ([]))
noncomputable def m_census_People_L1 (r9 : List (ByteArray × Person)) : List ByteArray → (List Person) → Option (List Person)
  | [], l136 => some l136
  | x110 :: xs111, l136 => (((mget beqS r9 x110)).bind fun x175 => (((appB 48 l136 ([x175]))).bind fun l183 => (m_census_People_L1 r9 xs111 l183)))
noncomputable def m_census_People (a0 : List Cred) : Option (List Person) :=
  (((m_cred_Set a0)).bind fun r1 => (((m_census_counted r1)).bind fun r9 => (((m_census_names r1)).bind fun r21 => m_census_People_L1 r9 r21 ([]))))
noncomputable def m_slices_MaxFunc_Person_L1 (a0 : List Person) (f1 : ((Person × Person)) → Option Int) : Nat → Int → Person → Option Person
  | 0, _, _ => none
  | n410 + 1, x325, x326 => (if (decide (x325 < ((a0.length : Int)))) then (((((idx a0 x325)).bind fun x478 => (((f1 ((x478, x326)))).bind fun r480 => (if (decide (r480 > 0)) then (((idx a0 x325)).bind fun x487 => some x487) else some x326))) : Option Person).bind fun x448 => (m_slices_MaxFunc_Person_L1 a0 f1 n410 ((IntKind.i64.wrap (x325 + 1))) x448)) else some x326)
noncomputable def m_slices_MaxFunc_Person (a0 : List Person) (f1 : ((Person × Person)) → Option Int) : Option Person :=
  (if (decide (((a0.length : Int)) < 1)) then none else (((idx a0 0)).bind fun x7 => m_slices_MaxFunc_Person_L1 a0 f1 FUEL 1 x7))
noncomputable def m_census_Busiest_c1 (a0 : Person) (a1 : Person) : Option Int :=
  some (IntKind.i64.wrap (a0.Issued - a1.Issued))
noncomputable def m_census_Busiest (a0 : List Cred) : Option ((Person × Bool)) :=
  (((m_census_People a0)).bind fun r3 => (if (((r3.length : Int)) == 0) then some ((⟨zS, 0, 0, 0, 0⟩ : Person), false) else (((m_slices_MaxFunc_Person r3 (fun (x : (Person × Person)) => m_census_Busiest_c1 x.1 x.2))).bind fun r13 => some (r13, true))))
noncomputable def m_census_Person (a0 : List Cred) (a1 : ByteArray) : Option ((Person × Bool)) :=
  (((m_cred_Set a0)).bind fun r3 => (((m_census_counted r3)).bind fun r11 => (if (!((mget beqS r11 a1).isSome)) then some ((⟨zS, 0, 0, 0, 0⟩ : Person), false) else (((mget beqS r11 a1)).bind fun x27 => some (x27, true)))))
noncomputable def m_model_Model_Roles_L1 (a1 : ByteArray) : List Fact → (List Role) → Option (List Role)
  | [], l100 => some l100
  | x78 :: xs79, l100 => (if (beqS x78.Who a1) then (((appB 32 l100 ([x78.Role]))).bind fun l139 => (m_model_Model_Roles_L1 a1 xs79 l139)) else (m_model_Model_Roles_L1 a1 xs79 l100))
noncomputable def m_model_Model_Roles (a0_in_ : List (Role × (List (ByteArray × Bool)))) (a0_creds : List Cred) (a0_uses : List (Role × (List Cred))) (a0_words : List (ByteArray × (List Cred))) (a0_todo : List Fact) (a0_n : Int) (a1 : ByteArray) : Option (List Role) :=
  (((m_model_Model_Facts a0_in_ a0_creds a0_uses a0_words a0_todo a0_n)).bind fun r1 => m_model_Model_Roles_L1 a1 r1 ([]))
noncomputable def m_census_Reach_L1  : List Role → (List ByteArray) → Option (List ByteArray)
  | [], l119 => (((m_name_Set l119)).bind fun r160 => some r160)
  | x98 :: xs99, l119 => (((appB 16 l119 ([x98.Owner]))).bind fun l154 => (m_census_Reach_L1 xs99 l154))
noncomputable def m_census_Reach (a0 : List Cred) (a1 : ByteArray) : Option (List ByteArray) :=
  (((m_model_Of a0)).bind fun r1 => (((m_model_Model_Roles r1.1 r1.2.1 r1.2.2.1 r1.2.2.2.1 r1.2.2.2.2.1 r1.2.2.2.2.2 a1)).bind fun r26 => m_census_Reach_L1 r26 ([])))
noncomputable def m_slices_Equal_Role_L1 (a1 : List Role) : List Role → Nat → Option Bool
  | [], _ => some true
  | x91 :: xs92, i90 => (((idx a1 ((i90 : Int)))).bind fun x175 => (if (!(beqRole x91 x175)) then some false else (m_slices_Equal_Role_L1 a1 xs92 (i90 + 1))))
noncomputable def m_slices_Equal_Role (a0 : List Role) (a1 : List Role) : Option Bool :=
  (if (((a0.length : Int)) != ((a1.length : Int))) then some false else m_slices_Equal_Role_L1 a1 a0 0)
noncomputable def m_census_Alike (a0 : List Cred) (a1 : ByteArray) (a2 : ByteArray) : Option Bool :=
  (((m_model_Of a0)).bind fun r1 => (((m_model_Model_Roles r1.1 r1.2.1 r1.2.2.1 r1.2.2.2.1 r1.2.2.2.2.1 r1.2.2.2.2.2 a1)).bind fun r26 => (((m_model_Model_Roles r1.1 r1.2.1 r1.2.2.1 r1.2.2.2.1 r1.2.2.2.2.1 r1.2.2.2.2.2 a2)).bind fun r34 => (((m_slices_Equal_Role r26 r34)).bind fun r42 => some r42))))
noncomputable def m_law47_first  : Option Bool :=
  (((m_census_People ([(⟨1, (⟨(⟨#[97]⟩ : ByteArray), (⟨#[114]⟩ : ByteArray)⟩ : Role), (⟨#[100]⟩ : ByteArray), (⟨zS, zS⟩ : Role), (⟨zS, zS⟩ : Role), zS⟩ : Cred), (⟨1, (⟨(⟨#[97]⟩ : ByteArray), (⟨#[114]⟩ : ByteArray)⟩ : Role), (⟨#[100]⟩ : ByteArray), (⟨zS, zS⟩ : Role), (⟨zS, zS⟩ : Role), zS⟩ : Cred)]))).bind fun r6 => (((m_census_Busiest ([(⟨1, (⟨(⟨#[97]⟩ : ByteArray), (⟨#[114]⟩ : ByteArray)⟩ : Role), (⟨#[100]⟩ : ByteArray), (⟨zS, zS⟩ : Role), (⟨zS, zS⟩ : Role), zS⟩ : Cred), (⟨1, (⟨(⟨#[97]⟩ : ByteArray), (⟨#[114]⟩ : ByteArray)⟩ : Role), (⟨#[100]⟩ : ByteArray), (⟨zS, zS⟩ : Role), (⟨zS, zS⟩ : Role), zS⟩ : Cred)]))).bind fun r14 => (((m_census_Person ([(⟨1, (⟨(⟨#[97]⟩ : ByteArray), (⟨#[114]⟩ : ByteArray)⟩ : Role), (⟨#[100]⟩ : ByteArray), (⟨zS, zS⟩ : Role), (⟨zS, zS⟩ : Role), zS⟩ : Cred), (⟨1, (⟨(⟨#[97]⟩ : ByteArray), (⟨#[114]⟩ : ByteArray)⟩ : Role), (⟨#[100]⟩ : ByteArray), (⟨zS, zS⟩ : Role), (⟨zS, zS⟩ : Role), zS⟩ : Cred)]) ((⟨#[100]⟩ : ByteArray)))).bind fun r20 => (((m_census_Person ([(⟨1, (⟨(⟨#[97]⟩ : ByteArray), (⟨#[114]⟩ : ByteArray)⟩ : Role), (⟨#[100]⟩ : ByteArray), (⟨zS, zS⟩ : Role), (⟨zS, zS⟩ : Role), zS⟩ : Cred), (⟨1, (⟨(⟨#[97]⟩ : ByteArray), (⟨#[114]⟩ : ByteArray)⟩ : Role), (⟨#[100]⟩ : ByteArray), (⟨zS, zS⟩ : Role), (⟨zS, zS⟩ : Role), zS⟩ : Cred)]) ((⟨#[101]⟩ : ByteArray)))).bind fun r26 => (((if (((r6.length : Int)) == 2) then (((idx r6 0)).bind fun x525 => some ((beqPerson x525 ((⟨(⟨#[97]⟩ : ByteArray), 1, 0, 0, 1⟩ : Person))))) else some false) : Option Bool).bind fun x368 => (((if x368 then some r14.2 else some false) : Option Bool).bind fun x381 => (((if x381 then (((idx r6 0)).bind fun x512 => some ((beqPerson r14.1 x512))) else some false) : Option Bool).bind fun x398 => (((if x398 then some r20.2 else some false) : Option Bool).bind fun x408 => (((if x408 then some ((!r26.2)) else some false) : Option Bool).bind fun x417 => (((if x417 then some ((beqPerson r20.1 ((⟨(⟨#[100]⟩ : ByteArray), 0, 1, 1, 0⟩ : Person)))) else some false) : Option Bool).bind fun x425 => (((if x425 then (((m_census_Reach ([(⟨1, (⟨(⟨#[97]⟩ : ByteArray), (⟨#[114]⟩ : ByteArray)⟩ : Role), (⟨#[100]⟩ : ByteArray), (⟨zS, zS⟩ : Role), (⟨zS, zS⟩ : Role), zS⟩ : Cred), (⟨1, (⟨(⟨#[97]⟩ : ByteArray), (⟨#[114]⟩ : ByteArray)⟩ : Role), (⟨#[100]⟩ : ByteArray), (⟨zS, zS⟩ : Role), (⟨zS, zS⟩ : Role), zS⟩ : Cred)]) ((⟨#[100]⟩ : ByteArray)))).bind fun r485 => some ((((r485.length : Int)) == 1))) else some false) : Option Bool).bind fun x441 => (((if x441 then (((m_census_Alike ([(⟨1, (⟨(⟨#[97]⟩ : ByteArray), (⟨#[114]⟩ : ByteArray)⟩ : Role), (⟨#[100]⟩ : ByteArray), (⟨zS, zS⟩ : Role), (⟨zS, zS⟩ : Role), zS⟩ : Cred), (⟨1, (⟨(⟨#[97]⟩ : ByteArray), (⟨#[114]⟩ : ByteArray)⟩ : Role), (⟨#[100]⟩ : ByteArray), (⟨zS, zS⟩ : Role), (⟨zS, zS⟩ : Role), zS⟩ : Cred)]) ((⟨#[97]⟩ : ByteArray)) ((⟨#[101]⟩ : ByteArray)))).bind fun r478 => some r478) else some false) : Option Bool).bind fun x452 => (((if x452 then (((m_census_Alike ([(⟨1, (⟨(⟨#[97]⟩ : ByteArray), (⟨#[114]⟩ : ByteArray)⟩ : Role), (⟨#[100]⟩ : ByteArray), (⟨zS, zS⟩ : Role), (⟨zS, zS⟩ : Role), zS⟩ : Cred), (⟨1, (⟨(⟨#[97]⟩ : ByteArray), (⟨#[114]⟩ : ByteArray)⟩ : Role), (⟨#[100]⟩ : ByteArray), (⟨zS, zS⟩ : Role), (⟨zS, zS⟩ : Role), zS⟩ : Cred)]) ((⟨#[97]⟩ : ByteArray)) ((⟨#[100]⟩ : ByteArray)))).bind fun r471 => some ((!r471))) else some false) : Option Bool).bind fun x462 => some x462)))))))))))))
noncomputable def m_law05_Great_L1  : List Cred → Int → Option Int
  | [], x47 => some x47
  | x35 :: xs36, x47 => (m_law05_Great_L1 xs36 ((IntKind.i64.wrap (x47 + ((IntKind.i64.wrap (((IntKind.i64.wrap (((IntKind.i64.wrap (((IntKind.i64.wrap (((IntKind.i64.wrap (((IntKind.i64.wrap (((IntKind.i64.wrap (((IntKind.i64.wrap (20 + ((x35.Head.Owner.size : Int))))) + ((x35.Head.Word.size : Int))))) + ((x35.Who.size : Int))))) + ((x35.B.Owner.size : Int))))) + ((x35.B.Word.size : Int))))) + ((x35.C.Owner.size : Int))))) + ((x35.C.Word.size : Int))))) + ((x35.Word2.size : Int)))))))))
noncomputable def m_law05_Great (a0 : List Cred) : Option Int :=
  m_law05_Great_L1 a0 0
noncomputable def m_ref03_Right_L1 (a0 : ByteArray) : Nat → Int → Option Bool
  | 0, _ => none
  | n364 + 1, x293 => (if (decide (x293 < ((a0.size : Int)))) then (((idxS a0 x293)).bind fun c368 => (((if (decide (((c368.toNat : Int)) < 97)) then some true else some ((decide (((c368.toNat : Int)) > 122)))) : Option Bool).bind fun x371 => (((if x371 then (((if (decide (((c368.toNat : Int)) < 48)) then some true else some ((decide (((c368.toNat : Int)) > 57)))) : Option Bool).bind fun x416 => some x416) else some false) : Option Bool).bind fun x392 => (((if x392 then some ((((c368.toNat : Int)) != 45)) else some false) : Option Bool).bind fun x400 => (if x400 then some false else (m_ref03_Right_L1 a0 n364 ((IntKind.i64.wrap (x293 + 1))))))))) else some true)
noncomputable def m_ref03_Right (a0 : ByteArray) : Option Bool :=
  (((if (beqS a0 zS) then some true else some ((decide (((a0.size : Int)) > 16)))) : Option Bool).bind fun x2 => (((if x2 then some true else (((idxS a0 0)).bind fun c442 => some ((decide (((c442.toNat : Int)) < 97))))) : Option Bool).bind fun x10 => (((if x10 then some true else (((idxS a0 0)).bind fun c436 => some ((decide (((c436.toNat : Int)) > 122))))) : Option Bool).bind fun x18 => (if x18 then some false else m_ref03_Right_L1 a0 FUEL 0))))
noncomputable def m_ref04_Right (a0 : Role) : Option Bool :=
  (((m_ref03_Right a0.Owner)).bind fun r3 => (((if r3 then (((m_ref03_Right a0.Word)).bind fun r19 => some r19) else some false) : Option Bool).bind fun x10 => some x10))
noncomputable def m_ref04_Less (a0 : Role) (a1 : Role) : Option Bool :=
  (((if (ltS a0.Owner a1.Owner) then some true else (((if (beqS a0.Owner a1.Owner) then some ((ltS a0.Word a1.Word)) else some false) : Option Bool).bind fun x27 => some x27)) : Option Bool).bind fun x17 => some x17)
noncomputable def m_ref05_Right (a0 : Cred) : Option Bool :=
  (((m_ref04_Right a0.Head)).bind fun r5 => (if (!r5) then some false else (if (a0.Kind == 1) then (((m_ref03_Right a0.Who)).bind fun r10 => (((if r10 then some ((beqRole a0.B ((⟨zS, zS⟩ : Role)))) else some false) : Option Bool).bind fun x14 => (((if x14 then some ((beqRole a0.C ((⟨zS, zS⟩ : Role)))) else some false) : Option Bool).bind fun x22 => (((if x22 then some ((beqS a0.Word2 zS)) else some false) : Option Bool).bind fun x29 => some x29)))) else (((if (!(beqS a0.Who zS)) then some true else (((m_ref04_Right a0.B)).bind fun r138 => some ((!r138)))) : Option Bool).bind fun x50 => (if x50 then some false else (if (a0.Kind == 2) then (((if (beqRole a0.C ((⟨zS, zS⟩ : Role))) then some ((beqS a0.Word2 zS)) else some false) : Option Bool).bind fun x59 => some x59) else (if (a0.Kind == 3) then (((if (beqRole a0.C ((⟨zS, zS⟩ : Role))) then some ((beqS a0.B.Owner a0.Head.Owner)) else some false) : Option Bool).bind fun x69 => (((if x69 then (((m_ref03_Right a0.Word2)).bind fun r86 => some r86) else some false) : Option Bool).bind fun x78 => some x78)) else (((if (a0.Kind == 4) then some ((beqS a0.Word2 zS)) else some false) : Option Bool).bind fun x94 => (((if x94 then (((m_ref04_Right a0.C)).bind fun r127 => some r127) else some false) : Option Bool).bind fun x103 => (((if x103 then (((m_ref04_Less a0.B a0.C)).bind fun r120 => some r120) else some false) : Option Bool).bind fun x112 => some x112))))))))))
noncomputable def m_ref01_Number_L1  : Nat → Int → ByteArray → Option ByteArray
  | 0, _, _ => none
  | n45 + 1, x32, x33 => (if (decide (x32 ≥ 128)) then (((catS x33 ((strI ([(IntKind.u8.wrap ((IntKind.i64.wrap (128 + ((Int.tmod x32 128))))))]))))).bind fun s51 => (m_ref01_Number_L1 n45 ((IntKind.i64.wrap (Int.tdiv x32 128))) s51)) else (((catS x33 ((strI ([(IntKind.u8.wrap x32)]))))).bind fun s55 => some s55))
noncomputable def m_ref01_Number (a0 : Int) : Option ByteArray :=
  m_ref01_Number_L1 FUEL a0 zS
noncomputable def m_ref01_Text (a0 : ByteArray) : Option ByteArray :=
  (((m_ref01_Number ((a0.size : Int)))).bind fun r1 => (((catS r1 a0)).bind fun s4 => some s4))
noncomputable def m_ref04_Bytes (a0 : Role) : Option ByteArray :=
  (((m_ref01_Text a0.Owner)).bind fun r19 => (((m_ref01_Text a0.Word)).bind fun r22 => (((catS r19 r22)).bind fun s25 => some s25)))
noncomputable def m_ref05_Bytes (a0 : Cred) : Option ByteArray :=
  (((m_ref01_Number a0.Kind)).bind fun r19 => (((m_ref04_Bytes a0.Head)).bind fun r22 => (((catS r19 r22)).bind fun s25 => (if (a0.Kind == 1) then (((m_ref01_Text a0.Who)).bind fun r28 => (((catS s25 r28)).bind fun s31 => some s31)) else (((m_ref04_Bytes a0.B)).bind fun r33 => (((catS s25 r33)).bind fun s36 => (((if (a0.Kind == 3) then (((m_ref01_Text a0.Word2)).bind fun r72 => (((catS s36 r72)).bind fun s75 => some s75)) else some s36) : Option ByteArray).bind fun x44 => (((if (a0.Kind == 4) then (((m_ref04_Bytes a0.C)).bind fun r63 => (((catS x44 r63)).bind fun s66 => some s66)) else some x44) : Option ByteArray).bind fun x55 => some x55))))))))
noncomputable def m_ref05_bytes (a0 : Cred) : Option ByteArray :=
  (((m_ref05_Right a0)).bind fun r3 => (if (!r3) then some zS else (((m_ref05_Bytes a0)).bind fun r7 => some r7)))
noncomputable def m_ref05_Compare (a0 : Cred) (a1 : Cred) : Option Int :=
  (((m_ref05_bytes a0)).bind fun r5 => (((m_ref05_bytes a1)).bind fun r8 => (if (ltS r5 r8) then some (-1) else (if (!(ltS r5 r8 || beqS r5 r8)) then some 1 else some 0))))
noncomputable def m_ref05_Set_L2 (l11497 : List Cred) : List Cred → Bool → Cred → Option ((Bool × Cred))
  | [], x16301, x16302 => some (x16301, x16302)
  | x15828 :: xs15829, x16301, x16302 => (((m_ref05_Right x15828)).bind fun r17096 => (((if r17096 then (((if (((l11497.length : Int)) == 0) then some true else (((idx l11497 ((IntKind.i64.wrap (((l11497.length : Int)) - 1))))).bind fun x17246 => (((m_ref05_Compare x17246 x15828)).bind fun r17248 => some ((decide (r17248 < 0)))))) : Option Bool).bind fun x17226 => some x17226) else some false) : Option Bool).bind fun x17134 => (((if x17134 then (((if (!x16301) then some true else (((m_ref05_Compare x15828 x16302)).bind fun r17210 => some ((decide (r17210 < 0))))) : Option Bool).bind fun x17193 => some x17193) else some false) : Option Bool).bind fun x17171 => (if x17171 then (m_ref05_Set_L2 l11497 xs15829 true x15828) else (m_ref05_Set_L2 l11497 xs15829 x16301 x16302)))))
noncomputable def m_ref05_Set_L1 (a0 : List Cred) : Nat → (List Cred) → Option (List Cred)
  | 0, _ => none
  | n14378 + 1, l11497 => ((m_ref05_Set_L2 l11497 a0 false ((⟨0, (⟨zS, zS⟩ : Role), zS, (⟨zS, zS⟩ : Role), (⟨zS, zS⟩ : Role), zS⟩ : Cred)) : Option ((Bool × Cred))).bind fun (x15807, x15808) => (if (!x15807) then some l11497 else (((appB 136 l11497 ([x15808]))).bind fun l15818 => (m_ref05_Set_L1 a0 n14378 l15818))))
noncomputable def m_ref05_Set (a0 : List Cred) : Option (List Cred) :=
  m_ref05_Set_L1 a0 FUEL ([])
noncomputable def m_ref03_Set_L2 (l3289 : List ByteArray) : List ByteArray → ByteArray → Option ByteArray
  | [], x4673 => some x4673
  | x4540 :: xs4541, x4673 => (((m_ref03_Right x4540)).bind fun r4815 => (((if r4815 then (((if (((l3289.length : Int)) == 0) then some true else (((idx l3289 ((IntKind.i64.wrap (((l3289.length : Int)) - 1))))).bind fun x4937 => some ((!(ltS x4540 x4937 || beqS x4540 x4937))))) : Option Bool).bind fun x4918 => some x4918) else some false) : Option Bool).bind fun x4846 => (((if x4846 then (((if (beqS x4673 zS) then some true else some ((ltS x4540 x4673))) : Option Bool).bind fun x4892 => some x4892) else some false) : Option Bool).bind fun x4875 => (if x4875 then (m_ref03_Set_L2 l3289 xs4541 x4540) else (m_ref03_Set_L2 l3289 xs4541 x4673)))))
noncomputable def m_ref03_Set_L1 (a0 : List ByteArray) : Nat → (List ByteArray) → Option (List ByteArray)
  | 0, _ => none
  | n4118 + 1, l3289 => ((m_ref03_Set_L2 l3289 a0 zS : Option ByteArray).bind fun x4521 => (if (beqS x4521 zS) then some l3289 else (((appB 16 l3289 ([x4521]))).bind fun l4530 => (m_ref03_Set_L1 a0 n4118 l4530))))
noncomputable def m_ref03_Set (a0 : List ByteArray) : Option (List ByteArray) :=
  m_ref03_Set_L1 a0 FUEL ([])
noncomputable def m_ref08_Names_L1  : List Cred → (List ByteArray) → Option (List ByteArray)
  | [], l86 => (((m_ref03_Set l86)).bind fun r127 => some r127)
  | x65 :: xs66, l86 => (((appB 16 l86 ([x65.Who, x65.Head.Owner, x65.B.Owner, x65.C.Owner]))).bind fun l121 => (m_ref08_Names_L1 xs66 l121))
noncomputable def m_ref08_Names (a0 : List Cred) : Option (List ByteArray) :=
  m_ref08_Names_L1 a0 ([])
noncomputable def m_ref08_In_L1 (a1 : Role) (a2 : ByteArray) : List Fact → Option Bool
  | [] => some false
  | x82 :: xs83 => (((if (beqRole x82.Role a1) then some ((beqS x82.Who a2)) else some false) : Option Bool).bind fun x145 => (if x145 then some true else (m_ref08_In_L1 a1 a2 xs83)))
noncomputable def m_ref08_In (a0 : List Fact) (a1 : Role) (a2 : ByteArray) : Option Bool :=
  m_ref08_In_L1 a1 a2 a0
noncomputable def m_ref08_Step_L1 (a0 : List Fact) (a1 : Cred) (a3 : ByteArray) : List ByteArray → Option Bool
  | [] => some false
  | x130 :: xs131 => (((m_ref08_In a0 a1.B x130)).bind fun r205 => (((if r205 then (((m_ref08_In a0 ((⟨x130, a1.Word2⟩ : Role)) a3)).bind fun r227 => some r227) else some false) : Option Bool).bind fun x212 => (if x212 then some true else (m_ref08_Step_L1 a0 a1 a3 xs131))))
noncomputable def m_ref08_Step (a0 : List Fact) (a1 : Cred) (a2 : List ByteArray) (a3 : ByteArray) : Option Bool :=
  (if (a1.Kind == 1) then some (beqS a1.Who a3) else (if (a1.Kind == 2) then (((m_ref08_In a0 a1.B a3)).bind fun r5 => some r5) else (if (a1.Kind == 4) then (((m_ref08_In a0 a1.B a3)).bind fun r9 => (((if r9 then (((m_ref08_In a0 a1.C a3)).bind fun r25 => some r25) else some false) : Option Bool).bind fun x16 => some x16)) else m_ref08_Step_L1 a0 a1 a3 a2)))
noncomputable def m_ref08_less (a0 : Fact) (a1 : Fact) : Option Bool :=
  (((m_ref04_Less a0.Role a1.Role)).bind fun r5 => (((if r5 then some true else (((if (beqRole a0.Role a1.Role) then some ((ltS a0.Who a1.Who)) else some false) : Option Bool).bind fun x30 => some x30)) : Option Bool).bind fun x20 => some x20))
noncomputable def m_ref08_Sorted_L2 (l9338 : List Fact) (a0 : List Fact) : List Fact → Nat → Int → Option Int
  | [], _, x13237 => some x13237
  | x12855 :: xs12856, i12854, x13237 => (((if (((l9338.length : Int)) == 0) then some true else (((idx l9338 ((IntKind.i64.wrap (((l9338.length : Int)) - 1))))).bind fun x14000 => (((m_ref08_less x14000 x12855)).bind fun r14002 => some r14002))) : Option Bool).bind fun x13890 => (((if x13890 then (((if (decide (x13237 < 0)) then some true else (((idx a0 x13237)).bind fun x13988 => (((m_ref08_less x12855 x13988)).bind fun r13990 => some r13990))) : Option Bool).bind fun x13967 => some x13967) else some false) : Option Bool).bind fun x13940 => (if x13940 then (m_ref08_Sorted_L2 l9338 a0 xs12856 (i12854 + 1) ((i12854 : Int))) else (m_ref08_Sorted_L2 l9338 a0 xs12856 (i12854 + 1) x13237))))
noncomputable def m_ref08_Sorted_L1 (a0 : List Fact) : List Fact → (List Fact) → Option (List Fact)
  | [], l9338 => some l9338
  | x7004 :: xs7005, l9338 => ((m_ref08_Sorted_L2 l9338 a0 a0 0 ((-1)) : Option Int).bind fun x12829 => (if (decide (x12829 ≥ 0)) then (((idx a0 x12829)).bind fun x12841 => (((appB 48 l9338 ([x12841]))).bind fun l12845 => (m_ref08_Sorted_L1 a0 xs7005 l12845))) else (m_ref08_Sorted_L1 a0 xs7005 l9338)))
noncomputable def m_ref08_Sorted (a0 : List Fact) : Option (List Fact) :=
  m_ref08_Sorted_L1 a0 a0 ([])
noncomputable def m_ref08_Of_L3 (x12026 : Cred) (r9 : List ByteArray) : List ByteArray → (List Fact) → Bool → Option (((List Fact) × Bool))
  | [], l12988, x12991 => some (l12988, x12991)
  | x12939 :: xs12940, l12988, x12991 => (((m_ref08_In l12988 x12026.Head x12939)).bind fun r13062 => (((if (!r13062) then (((m_ref08_Step l12988 x12026 r9 x12939)).bind fun r13098 => some r13098) else some false) : Option Bool).bind fun x13069 => (if x13069 then (((appB 48 l12988 ([(⟨x12026.Head, x12939⟩ : Fact)]))).bind fun l13088 => (m_ref08_Of_L3 x12026 r9 xs12940 l13088 true)) else (m_ref08_Of_L3 x12026 r9 xs12940 l12988 x12991))))
noncomputable def m_ref08_Of_L2 (r9 : List ByteArray) : List Cred → (List Fact) → Bool → Option (((List Fact) × Bool))
  | [], l12382, x12385 => some (l12382, x12385)
  | x12026 :: xs12027, l12382, x12385 => ((m_ref08_Of_L3 x12026 r9 r9 l12382 x12385 : Option (((List Fact) × Bool))).bind fun (l12922, x12925) => (m_ref08_Of_L2 r9 xs12027 l12922 x12925))
noncomputable def m_ref08_Of_L1 (r9 : List ByteArray) (r1 : List Cred) : Nat → (List Fact) → Option (List Fact)
  | 0, _ => none
  | n10922 + 1, l8735 => ((m_ref08_Of_L2 r9 r1 l8735 false : Option (((List Fact) × Bool))).bind fun (l12003, x12006) => (if (!x12006) then (((m_ref08_Sorted l12003)).bind fun r12014 => some r12014) else (m_ref08_Of_L1 r9 r1 n10922 l12003)))
noncomputable def m_ref08_Of (a0 : List Cred) : Option (List Fact) :=
  (((m_ref05_Set a0)).bind fun r1 => (((m_ref08_Names r1)).bind fun r9 => m_ref08_Of_L1 r9 r1 FUEL ([])))
noncomputable def m_ref08_Roles_L1 (a1 : ByteArray) : List Fact → (List Role) → Option (List Role)
  | [], l92 => some l92
  | x70 :: xs71, l92 => (if (beqS x70.Who a1) then (((appB 32 l92 ([x70.Role]))).bind fun l131 => (m_ref08_Roles_L1 a1 xs71 l131)) else (m_ref08_Roles_L1 a1 xs71 l92))
noncomputable def m_ref08_Roles (a0 : List Fact) (a1 : ByteArray) : Option (List Role) :=
  m_ref08_Roles_L1 a1 a0 ([])
noncomputable def m_ref47_Reach_L1  : List Role → (List ByteArray) → Option (List ByteArray)
  | [], l102 => (((m_ref03_Set l102)).bind fun r143 => some r143)
  | x81 :: xs82, l102 => (((appB 16 l102 ([x81.Owner]))).bind fun l137 => (m_ref47_Reach_L1 xs82 l137))
noncomputable def m_ref47_Reach (a0 : List Cred) (a1 : ByteArray) : Option (List ByteArray) :=
  (((m_ref08_Of a0)).bind fun r1 => (((m_ref08_Roles r1 a1)).bind fun r9 => m_ref47_Reach_L1 r9 ([])))
noncomputable def m_ref04_Same_L1 (a1 : List Role) : List Role → Nat → Option Bool
  | [], _ => some true
  | x91 :: xs92, i90 => (((idx a1 ((i90 : Int)))).bind fun x175 => (if (!(beqRole x91 x175)) then some false else (m_ref04_Same_L1 a1 xs92 (i90 + 1))))
noncomputable def m_law47_CensusSums_L1 (a0 : List Cred) : List Person → Person → Option Bool
  | [], x83 => (((m_model_Of a0)).bind fun r113 => (((m_model_Model_Facts r113.1 r113.2.1 r113.2.2.1 r113.2.2.2.1 r113.2.2.2.2.1 r113.2.2.2.2.2)).bind fun r138 => (((m_ref05_Set a0)).bind fun r222 => (((if (x83.Issued == ((r222.length : Int))) then some ((x83.Roles == ((r138.length : Int)))) else some false) : Option Bool).bind fun x231 => (((if x231 then some ((decide (x83.Peopled ≤ ((r138.length : Int))))) else some false) : Option Bool).bind fun x238 => (((if x238 then some ((decide (x83.Member ≤ x83.Issued))) else some false) : Option Bool).bind fun x244 => some x244))))))
  | x67 :: xs68, x83 => (m_law47_CensusSums_L1 a0 xs68 ((⟨x83.Name, (IntKind.i64.wrap (x83.Issued + x67.Issued)), (IntKind.i64.wrap (x83.Member + x67.Member)), (IntKind.i64.wrap (x83.Roles + x67.Roles)), (IntKind.i64.wrap (x83.Peopled + x67.Peopled))⟩ : Person)))
noncomputable def m_law47_CensusSums (a0 : List Cred) : Option Bool :=
  (m_law47_first.bind fun r1 => (if (!r1) then some false else (((m_law05_Great a0)).bind fun r5 => (if (decide (r5 > 1500)) then some true else (((m_census_People a0)).bind fun r11 => m_law47_CensusSums_L1 a0 r11 ((⟨zS, 0, 0, 0, 0⟩ : Person)))))))
end Go.Proofs.YtfjdjbdnnoijgaaGreat
