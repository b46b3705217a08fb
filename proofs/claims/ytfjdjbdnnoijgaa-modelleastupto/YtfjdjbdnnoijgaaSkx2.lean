/- a part of a proof of ModelLeast -/
import Derived.Test.YtfjdjbdnnoijgaaSgx2
import Derived.Test.YtfjdjbdnnoijgaaRtNx2
import Derived.Shelf.SlIter.Sorted
import Derived.Shelf.SlIter.Nil
set_option linter.all false
namespace Go.Proofs.Ytfjdjbdnnoijgaa
open Go.WideElems Go.WideShapes Go.Sort Go.Proofs Go.Shelf
theorem owns_of_map {β : Type} {vf : β → Value} {P : Program} {kt : TypeId} (ht : P.underlying kt = some .string) {l : List (ByteArray × β)} {es : Array MapEntry} {clock : Nat} (h : MapOf Value.string vf l es clock) (hn : (l.map (·.1)).Nodup) (hs : ∀ p ∈ l, p.1.size ≤ maxLen) (hl : l.length ≤ maxLen)
    {W : World} {b : Nat} (hb : W.heap[b]? = some (.map es clock)) : ∃ D : DataW Unit, W.ownsMap P kt (fun _ => some (.lit (.bool true), [])) b es.size D ∧ (strKeys D).Perm (l.map (fun p => p.1.data.toList)) ∧ Maps.size D = l.length := by
  have hkeys := h.keys
  have hrd : ∀ x ∈ es.toList, ∃ s : ByteArray, x.key = .string s ∧ s.size ≤ maxLen := fun x hx => by
    have h1 : x.key ∈ es.toList.map (·.key) := List.mem_map.2 ⟨x, hx, rfl⟩
    rw [hkeys] at h1
    obtain ⟨s, h2, h3⟩ := List.mem_map.1 h1
    obtain ⟨p, h4, h5⟩ := List.mem_map.1 h2
    exact ⟨s, h3.symm, by rw [← h5]; exact hs p h4⟩
  have hrd2 : ∀ x ∈ es.toList, ∃ s : ByteArray, x.key = .string s ∧ Go.WideElems.rd (H := Unit) P kt (fun _ => some (.lit (.bool true), [])) x = some (.string s.data.toList, .lit (.bool true)) := fun x hx => by
    obtain ⟨s, h1, h2⟩ := hrd x hx
    refine ⟨s, h1, ?_⟩
    simp [Go.WideElems.rd, keyOf, ht, mapKey, h1, h2]
  refine ⟨_, ⟨es, clock, hb, ⟨by rw [h.length]; exact hl, ⟨h.lt, ?_, ?_⟩, fun x hx => ?_⟩, Nat.le_refl _, rfl⟩, ?_, ?_⟩
  · have := h.born
    rw [List.Nodup, List.pairwise_map]
    exact this.imp (fun {a b} h => by omega)
  · rw [hkeys]
    rw [List.Nodup, List.pairwise_map]
    exact hn.imp (fun {a b} hab e => hab (by injection e))
  · obtain ⟨s, _, h2⟩ := hrd2 x hx
    exact ⟨_, h2⟩
  · have h1 := (sorted_perm (es.toList.map (Go.WideElems.rg (H := Unit) P kt (fun _ => some (.lit (.bool true), []))))).map (fun p => strOf p.1)
    refine List.Perm.trans h1 ?_
    have e : (es.toList.map (Go.WideElems.rg (H := Unit) P kt (fun _ => some (.lit (.bool true), [])))).map (fun p => strOf p.1) = l.map (fun p => p.1.data.toList) := by
      have e1 : (es.toList.map (Go.WideElems.rg (H := Unit) P kt (fun _ => some (.lit (.bool true), [])))).map (fun p => strOf p.1) = (es.toList.map (·.key)).map (fun v => match v with | .string s => s.data.toList | _ => []) := by
        rw [List.map_map, List.map_map]
        refine List.map_congr_left fun x hx => ?_
        obtain ⟨s, h2, h3⟩ := hrd2 x hx
        simp [Go.WideElems.rg, h3, h2, strOf]
      rw [e1, hkeys, List.map_map, List.map_map]
      rfl
    rw [e]
  · have h1 := (sorted_perm (es.toList.map (Go.WideElems.rg (H := Unit) P kt (fun _ => some (.lit (.bool true), []))))).length_eq
    show (List.foldr DataW.insert [] _).length = _
    rw [h1, List.length_map, ← h.length]
    simp
theorem sorted_perm_S {l : List ByteArray} {ss : List (List UInt8)} (h : ss.Perm (l.map fun b => b.data.toList)) : ss.mergeSort (fun x y => decide (x ≤ y)) = (sortedS l).map (fun b => b.data.toList) := by
  rw [sorted_S]
  have le : ∀ a b c : List UInt8, decide (a ≤ b) = true → decide (b ≤ c) = true → decide (a ≤ c) = true := fun a b c h1 h2 => by
    simp only [decide_eq_true_eq] at *
    exact List.le_trans h1 h2
  have tot : ∀ a b : List UInt8, (decide (a ≤ b) || decide (b ≤ a)) = true := fun a b => by
    simp only [Bool.or_eq_true, decide_eq_true_eq]
    exact List.le_total a b
  refine List.Perm.eq_of_pairwise (le := fun a b => decide (a ≤ b) = true) (fun a b _ _ h1 h2 => List.le_antisymm (by simpa using h1) (by simpa using h2)) (List.pairwise_mergeSort le tot _) (List.pairwise_mergeSort le tot _) ?_
  exact (List.mergeSort_perm _ _).trans (h.trans (List.mergeSort_perm _ _).symm)
section
variable {P : Program} {ρk ρt ρm : Ren}
theorem keysS_gives (LK : SlLaysZ.n7 P ρk) (LT : SlLaysZ.n6 P ρt) (LM : SlLaysM.n6 P ρm) (h9 : ρt.f 9 = ρm.f 6) (hK : P.underlying (ρk.t 26) = some .string) (eg : ∀ args w, (callFunc (ρk.f 10) args).run P w = .ok (.enter (ρk.f 10) args) w) (es : ∀ args w, (callFunc (ρt.f 9) args).run P w = .ok (.enter (ρt.f 9) args) w)
    {β : Type} {vf : β → Value} {l : List (ByteArray × β)} {b : Nat} {mv : Value} {t : TypeId} {W : World} {r : List ByteArray} (hb : W.heap[b]? = some (.cells #[mv] t (0, 0))) (hm : MapAt Value.string vf (hp W) mv l) (hk : keysS l = some r) :
    GivesRow false P (ρt.f 6) [.func (.func (ρk.f 10)) #[] #[.pointer (some ⟨b, 0, none⟩)]] W (ρt.t 26) encSk 1 r := by
  unfold keysS at hk
  split at hk
  case isFalse => cases hk
  rename_i hc
  obtain ⟨hc1, hc2, hc3⟩ := hc
  cases hk
  have hblt : b < W.heap.size := (Array.getElem?_eq_some_iff.1 hb).1
  have hcell : W.cell? ⟨b, 0, none⟩ = some mv := by simp [World.cell?, hb]
  have hsort : AnyZ.SortsIn P ρt Fence.wide 4 :=
    ⟨fun blk off cap ss W hH hblk hsz => callsIn_wide.2 (by rw [h9]; exact AnyM.slices_Sort_string LM blk off cap ss W hH hblk hsz), fun p cap W => callsIn_wide.2 (by rw [h9]; exact AnyM.slices_Sort_string_none LM p cap W)⟩
  have hseq : SeqGives Fence.wide 2 P (ρk.f 10) #[.pointer (some ⟨b, 0, none⟩)] encStr (fun ss => ss.Perm ((l.map (·.1)).map fun b => b.data.toList)) l.length W := by
    rcases hm with ⟨rfl, rfl⟩ | ⟨m, es, clock, rfl, hmb, hmap⟩
    · have := AnyZ.keys_gives_nil (ρ := ρk) { LK with } Fence.wide 2 trivial rfl b W hblt hcell
      intro l' J W' hW hJ hY h0
      refine CallsIn.mono (this l' J W' hW hJ hY h0) ?_
      rintro e w' ⟨hv, ss, rfl, hj⟩
      exact ⟨hv, [], List.Perm.refl _, hj⟩
    · obtain ⟨D, hown, hperm, hsz⟩ := owns_of_map hK hmap hc1 hc2 (by unfold maxLen; omega) hmb
      have := AnyZ.keys_gives (ρ := ρk) { LK with } Fence.wide 2 trivial rfl (by omega) b m es.size D W hblt hcell hown
      intro l' J W' hW hJ hY h0
      refine CallsIn.mono (this l' J W' hW hJ (by rw [hsz]; exact hY) h0) ?_
      rintro e w' ⟨hv, ss, hp, hj⟩
      refine ⟨hv, ss, ?_, hj⟩
      rw [List.map_map]
      exact hp.trans hperm
  have cS := AnyZ.sorted_in LT Fence.wide 5 trivial trivial trivial trivial rfl (by omega) hsort es (ρk.f 10) #[.pointer (some ⟨b, 0, none⟩)] trivial eg _ l.length (by unfold maxLen; omega) hc3 W hseq
  refine Calls.mono (callsIn_wide.1 cS) ?_
  rintro e w' ⟨v, ss, rfl, hS, hrow, hnil, hbel⟩
  have hs := sorted_perm_S hS
  have hlen : ss.length = (sortedS (l.map (·.1))).length := by
    have := congrArg List.length hs
    simpa using this
  have hflat : (ss.mergeSort (fun x y => decide (x ≤ y))).map encStr = ((sortedS (l.map (·.1))).map encSk).flatten := by
    rw [hs, flat_S, List.map_map]
    refine List.map_congr_left (fun x _ => ?_)
    simp only [Function.comp, encStr]
  rcases hrow.2 with ⟨rfl, h0⟩ | ⟨g, cap, cur, rfl, hbase, hg, hnc, hcm, hcs, htk⟩
  · have : sortedS (l.map (·.1)) = [] := List.eq_nil_of_length_eq_zero (by omega)
    rw [this]
    exact ⟨_, [], rfl, Back.of_ex ⟨hbel.os, hbel.tape, hbel.output, fun h => (by cases h), hbel.size, fun b hb => hbel.block b hb⟩ (fun _ _ h => by cases h) (by simp), Row.nil _ _ _⟩
  · refine ⟨_, [(g, .cells cur (ρt.t 26) (0, 0))], rfl, Back.of_ex ⟨hbel.os, hbel.tape, hbel.output, fun h => (by cases h), hbel.size, fun b hb => hbel.block b hb⟩ (fun b o h => by simp at h; obtain ⟨rfl, rfl⟩ := h; exact ⟨hg, hbase⟩) (by simp), .inr ⟨g, cap, cur, by rw [hlen], rfl, by omega, hcm, hcs, ?_⟩⟩
    rw [← hlen, htk, hflat]
end
end Go.Proofs.Ytfjdjbdnnoijgaa
