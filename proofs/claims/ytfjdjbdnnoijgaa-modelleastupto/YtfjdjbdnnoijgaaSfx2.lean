/- a part of a proof of ModelLeast -/
import Derived.Test.YtfjdjbdnnoijgaaRtLx2
import Derived.Shelf.SlSortCmp.NoneTotal
set_option linter.all false
namespace Go.Proofs.Ytfjdjbdnnoijgaa
open Go.Sort Go.Proofs Go.Shelf
theorem keys_one {g b : Nat} {o : Obj} : keys [(g, o)] b ↔ b = g := by
  constructor
  · rintro ⟨o', h⟩
    simp at h
    exact h.1
  · rintro rfl; exact ⟨o, by simp⟩
theorem heap_turned (w : World) (g m : Nat) (f : Array Value → Array Value) (os : Array Obj) (b : Nat) (hb : b < w.heap.size) :
    (Go.Sort.grow (mapBlock (Go.Sort.ahead w m) g f) os).heap[b]? = if g = b then w.heap[b]?.map (onCells f) else w.heap[b]? := by
  have hb' : b < (mapBlock (Go.Sort.ahead w m) g f).heap.size := by simp only [mapBlock, Go.Sort.ahead, Array.size_modify]; exact hb
  rw [heap_grow_old _ _ hb']
  simp only [mapBlock, Go.Sort.ahead, Array.getElem?_modify]
theorem back_turned {w : World} {g m : Nat} {f : Array Value → Array Value} {os : Array Obj} {cs : Array Value} {T : TypeId} {fr : Nat × Nat} (hg : w.heap[g]? = some (.cells cs T fr)) :
    Back true [(g, .cells cs T fr)] [(g, .cells (f cs) T fr)] w (Go.Sort.grow (mapBlock (Go.Sort.ahead w m) g f) os) := by
  have hlt : g < w.heap.size := (Array.getElem?_eq_some_iff.1 hg).1
  refine ⟨⟨rfl, rfl, rfl, ?_, ?_, fun b hb hn => ?_⟩, fun b o h => ?_, by simp⟩
  · refine Low.of ?_
    show w.drawn ≤ w.drawn + m
    omega
  · show w.heap.size ≤ (w.heap.modify g (onCells f) ++ os).size
    simp
  · rw [heap_turned _ _ _ _ _ _ hb, if_neg fun h => hn (keys_one.2 h.symm)]
  · simp only [List.mem_cons, List.not_mem_nil, or_false, Prod.mk.injEq] at h
    obtain ⟨rfl, rfl⟩ := h
    refine ⟨?_, .inr (keys_one.2 rfl)⟩
    rw [heap_turned _ _ _ _ _ _ hlt, if_pos rfl, hg]
    rfl
theorem grow_of_ex {w W : World} (h : Ex true w W) : ∃ q os, W = Go.Sort.grow (w.drewN q) os := by
  refine ⟨W.drawn - w.drawn, W.heap.extract w.heap.size W.heap.size, ?_⟩
  have hh : W.heap = w.heap ++ W.heap.extract w.heap.size W.heap.size := by
    apply Array.ext_getElem?
    intro i
    rw [Array.getElem?_append]
    split
    · rename_i hi; exact h.old i hi
    · rename_i hi
      rw [Array.getElem?_extract]
      have hsz := h.size
      split
      · rw [show w.heap.size + (i - w.heap.size) = i by omega]
      · exact Array.getElem?_eq_none (by omega)
  obtain ⟨h1, h2, h3, h4, h5⟩ := W
  have e1 := h.os; have e2 := h.tape; have e3 := h.output; have e4 := h.drawn rfl
  simp only at e1 e2 e3 e4 hh
  unfold Go.Sort.grow World.drewN
  simp only [World.mk.injEq]
  exact ⟨hh, e2, by omega, e1, e3⟩
theorem flat_at {α : Type} [Inhabited α] {enc : α → List Value} {k : Nat} (hk : ∀ x, (enc x).length = k) (l : List α) (j : Nat) (hj : j < l.length * k) :
    (l.map enc).flatten[j]? = some ((flatK enc k l.toArray)[j]!) := by
  have k0 : 0 < k := by
    cases k with
    | zero => simp at hj
    | succ n => omega
  have h1 : j / k < l.length := (Nat.div_lt_iff_lt_mul k0).2 hj
  rw [get_flatK _ _ _ _ (by simpa using hj)]
  have e1 : l.toArray[j / k]! = l[j / k] := by
    rw [getElem!_pos l.toArray (j / k) (by simpa using h1)]; simp
  rw [e1]
  have h2 : j % k < (enc l[j / k]).length := by rw [hk]; exact Nat.mod_lt _ k0
  have h3 := flat_get hk l (j / k) l[j / k] (List.getElem?_eq_getElem h1) (j % k) ((enc l[j / k])[j % k]) (List.getElem?_eq_getElem h2)
  rw [Nat.div_add_mod' j k] at h3
  rw [h3, getElem!_pos (enc l[j / k]) (j % k) h2]
theorem holds_of_take {α : Type} [Inhabited α] {enc : α → List Value} {k : Nat} (hk : ∀ x, (enc x).length = k) {w : World} {g : Nat} {cs : Array Value} {T : TypeId} (hg : w.heap[g]? = some (.cells cs T (0, 0))) (l : List α)
    (ht : cs.toList.take (l.length * k) = (l.map enc).flatten) : HoldsK enc k w g 0 l.toArray := by
  intro j hj
  have hj' : j < l.length * k := by simpa using hj
  have h1 := flat_at hk l j hj'
  rw [← ht, List.getElem?_take, if_pos hj'] at h1
  refine ⟨?_, ?_⟩
  · simp only [World.cell?, hg, Nat.zero_add]
    simpa using h1
  · simp [World.frozen?, hg]
theorem take_turned {α : Type} [Inhabited α] {enc : α → List Value} {k : Nat} (hk : ∀ x, (enc x).length = k) {cs : Array Value} (l : List α) (hs : l.length * k ≤ cs.size) :
    (putCells id 0 (flatK enc k l.toArray) cs).toList.take (l.length * k) = (l.map enc).flatten := by
  apply List.ext_getElem?
  intro j
  rw [List.getElem?_take]
  split
  · rename_i hj
    rw [flat_at hk l j hj]
    simp only [putCells, Array.getElem?_toList, Array.getElem?_mapIdx, size_flatK, List.size_toArray]
    rw [Array.getElem?_eq_getElem (by omega)]
    simp [hj]
  · rename_i hj
    rw [List.getElem?_eq_none (by rw [flat_length hk]; omega)]
theorem putCells_size (enc : Value → Value) (o : Nat) (d : Array Value) (c : Array Value) : (putCells enc o d c).size = c.size := by simp [putCells]
section
variable {α : Type} {P : Program} {ρ : Ren}
theorem swo_of {l : List α} {cf : α × α → Option Int} (h : SortOk cf l) : SWO (ltOf fun (x y : {x // x ∈ l}) => (cf (x.1, y.1)).getD 0) ∧
    (∀ x y : {x // x ∈ l}, ltOf (fun (x y : {x // x ∈ l}) => (cf (x.1, y.1)).getD 0) x y = lessO cf x.1 y.1) := by
  have e : ∀ x y : {x // x ∈ l}, ltOf (fun (x y : {x // x ∈ l}) => (cf (x.1, y.1)).getD 0) x y = lessO cf x.1 y.1 := fun x y => by
    obtain ⟨c, hc⟩ := h.is x.1 x.2 y.1 y.2
    simp [ltOf, lessO, hc]
  refine ⟨⟨fun x => ?_, fun x y z => ?_, fun x y z => ?_⟩, e⟩
  · rw [e]; exact h.irrefl _ x.2
  · rw [e, e, e]; exact h.trans _ x.2 _ y.2 _ z.2
  · rw [e, e, e]
    intro h1 h2
    cases h3 : lessO cf x.1 z.1 with
    | false => rfl
    | true =>
      cases h4 : lessO cf y.1 x.1 with
      | true =>
        have := h.trans _ y.2 _ x.2 _ z.2 h4 h3
        rw [h2] at this; cases this
      | false =>
        have := h.total _ x.2 _ y.2 h1 h4
        rw [this, h2] at h3; cases h3
theorem sortF_gives (L : SlLaysF0.n6 P ρ) (k : Nat) (aE : ∀ w, (isAgg (ρ.t 24)).run P w = .ok true w) (zE : ∀ w, (Go.sizeOf (ρ.t 24)).run P w = .ok k w) {e : TypeId} (enc : α → List Value) (hk : ∀ x, (enc x).length = k) (h1 : ∀ x, ∀ u ∈ enc x, u.oneCell' = true)
    {v fv : Value} {l r : List α} {R : List (Nat × Obj)} {cf : α × α → Option Int} {w : World} {μ0 : Mem} (hH : Held (R ++ []) w) (hS0 : Sub μ0 (hpx w (R ++ []))) (hr : Row e enc k v l R)
    (hc : CbO P fv μ0 (fun (x : α × α) => [(.agg (enc x.1).toArray), (.agg (enc x.2).toArray)]) (fun (r : Int) => (.int .i64 r)) cf) (hm : sortF cf l = some r) :
    GivesM true P (ρ.f 6) [v, fv] w (R ++ []) (fun u L1 _ => ∃ (S : List (Nat × Obj)), u = (.tuple #[]) ∧ L1 = (S ++ []) ∧ Row e enc k v r S) := by
  obtain ⟨ok, rfl⟩ := sortF_some hm
  rw [List.append_nil] at hH hS0 ⊢
  rcases Nat.eq_zero_or_pos l.length with h0 | hpos
  · have hl : l = [] := List.eq_nil_of_length_eq_zero h0
    subst hl
    have hs : sorted cf ([] : List α) = [] := by simp [sorted]
    rw [hs]
    obtain ⟨p, c, rfl⟩ : ∃ p c, v = .slice p 0 c := by
      rcases hr with ⟨rfl, _, _⟩ | ⟨g, cap, cur, rfl, _⟩
      · exact ⟨_, _, rfl⟩
      · exact ⟨_, _, rfl⟩
    refine Calls.mono (AnyF.slices_SortFunc_none L p c fv w) fun x w' ⟨hx, hw⟩ => ?_
    subst hx hw
    refine ⟨_, R, rfl, ⟨⟨rfl, rfl, rfl, Low.of (Nat.le_refl _), Nat.le_refl _, fun _ _ _ => rfl⟩, fun b o h => ⟨hH b o h, .inr ⟨o, h⟩⟩, ?_⟩, R, rfl, (List.append_nil R).symm, hr⟩
    rcases hr with ⟨_, _, rfl⟩ | ⟨g, cap, cur, _, rfl, _⟩ <;> simp
  · rcases hr with ⟨_, rfl, _⟩ | ⟨g, cap, cur, rfl, rfl, hlc, hcm, hcs, htk⟩
    · simp at hpos
    have hg : w.heap[g]? = some (.cells cur e (0, 0)) := hH g _ (by simp)
    have hlt : g < w.heap.size := (Array.getElem?_eq_some_iff.1 hg).1
    haveI : Inhabited {x // x ∈ l} := ⟨⟨l[0], List.getElem_mem hpos⟩⟩
    obtain ⟨gg, caps, rfl, hent, hgive⟩ := hc
    obtain ⟨hO, hlo⟩ := swo_of ok
    have hal : l.attach.toArray.size = l.length := by simp
    have hmv : l.attach.map (fun x => enc x.1) = l.map enc := by
      rw [show (fun x : {x // x ∈ l} => enc x.1) = enc ∘ Subtype.val from rfl, ← List.map_map, List.attach_map_subtype_val]
    have hH2 : HoldsK (fun x : {x // x ∈ l} => enc x.1) k w g 0 l.attach.toArray := holds_of_take (fun x => hk x.1) hg l.attach (by rw [hmv, List.length_attach, htk])
    have hcmp : CmpLays P gg caps (fun x : {x // x ∈ l} => enc x.1) k (fun x y => (cf (x.1, y.1)).getD 0) g 0 l.attach.toArray.size w := by
      intro m os dk hdk x y
      obtain ⟨c, hcc⟩ := ok.is x.1 x.2 y.1 y.2
      have hsub : Sub μ0 (hp (sortWorldK (fun x : {x // x ∈ l} => enc x.1) k w g 0 m dk os)) := fun b o hb => by
        have h2 := hS0 b o hb
        unfold hpx at h2
        split at h2
        · cases h2
        · rename_i hn
          have hbl : b < w.heap.size := (Array.getElem?_eq_some_iff.1 h2).1
          show (Go.Sort.grow (mapBlock (Go.Sort.ahead w m) g _) os).heap[b]? = _
          rw [heap_turned _ _ _ _ _ _ hbl, if_neg fun h => hn (keys_one.2 h.symm)]
          exact h2
      have h3 := hgive (sortWorldK (fun x : {x // x ∈ l} => enc x.1) k w g 0 m dk os) (x.1, y.1) c hsub hcc
      have ea : ([Value.agg (enc x.1).toArray, Value.agg (enc y.1).toArray] ++ caps.toList).toArray = #[Value.agg (enc x.1).toArray, Value.agg (enc y.1).toArray] ++ caps := by
        apply Array.ext'; simp
      rw [← ea]
      exact Calls.mono h3 fun u W' hu => ⟨by rw [hu.1]; show _ = Ending.returned (.int .i64 ((cf (x.1, y.1)).getD 0)); rw [hcc]; rfl, grow_of_ex hu.2⟩
    have hT : ∀ x y : {x // x ∈ l}, ltOf (fun (x y : {x // x ∈ l}) => (cf (x.1, y.1)).getD 0) x y = false → ltOf (fun (x y : {x // x ∈ l}) => (cf (x.1, y.1)).getD 0) y x = false → x = y := fun x y a b => by
      rw [hlo] at a b
      exact Subtype.ext (ok.total _ x.2 _ y.2 a b)
    have hmain := AnyQ.slices_SortFunc_total L k aE zE (fun x : {x // x ∈ l} => enc x.1) (fun x => hk x.1) (fun x => h1 x.1) (fun x y => (cf (x.1, y.1)).getD 0) hO gg caps g 0 cap l.attach.toArray w hent hcmp hH2 hlt (by rw [hal]; exact ok.short) hT
    rw [hal] at hmain
    refine Calls.mono hmain fun u w' ⟨hu, n, os, hw⟩ => ?_
    subst hu
    generalize hs : l.attach.toArray.toList.mergeSort (fun x y => !ltOf (fun (x y : {x // x ∈ l}) => (cf (x.1, y.1)).getD 0) y x) = s at hw
    have hsm : s.map Subtype.val = sorted cf l := by
      rw [← hs, List.map_mergeSort (s := fun x y => !lessO cf y x) (fun a _ b _ => by rw [hlo])]
      simp [sorted]
    have hsl : s.length = l.length := by rw [← hs, List.length_mergeSort]; simp
    have hrl : (sorted cf l).length = l.length := by simp [sorted, List.length_mergeSort]
    have hbk := back_turned (w := w) (m := n) (f := putCells id 0 (flatK (fun x : {x // x ∈ l} => enc x.1) k s.toArray)) (os := os) hg
    have hw2 : w' = Go.Sort.grow (mapBlock (Go.Sort.ahead w n) g (putCells id 0 (flatK (fun x : {x // x ∈ l} => enc x.1) k s.toArray))) os := hw
    rw [← hw2] at hbk
    refine ⟨_, _, rfl, hbk, _, rfl, (List.append_nil _).symm, .inr ⟨g, cap, _, by rw [hrl], rfl, by omega, hcm, by rw [putCells_size, hcs], ?_⟩⟩
    rw [hrl, ← hsl, take_turned (fun x => hk x.1) s (by rw [hsl, hcs]; exact Nat.mul_le_mul_right k hlc), ← hsm, List.map_map]
    rfl
end
end Go.Proofs.Ytfjdjbdnnoijgaa
