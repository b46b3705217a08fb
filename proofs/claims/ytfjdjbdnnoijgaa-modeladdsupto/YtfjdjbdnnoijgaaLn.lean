/- a part of a proof of ModelAdds -/
import Derived.Test.YtfjdjbdnnoijgaaLf
import Derived.Test.YtfjdjbdnnoijgaaRtO
set_option linter.all false
namespace Go.Proofs.Ytfjdjbdnnoijgaa.Lf
open Go.ChangeShapes Go.WideShapes Go.ChangeAt Go.RowKit
open Go.Proofs.Ytfjdjbdnnoijgaa (Rows.uptoBulk Rows.uptoBulkAll Rows.uptoSmall)
def DecR {α : Type} (P : Program) (t : TypeId) (R : Rep α) (sz : α → Nat) : Prop :=
  ∀ (H : Type) (eh : TypeId × Value → H) (W : World) (base : Nat) (sp : Nat → Bool) (hd : Bool) (fuel : Nat) (cs : List Value) (x : DataW H × List MemPlace),
    DataW.trod eh P W base sp hd fuel t cs = some x → ∃ a : α, R (hp W) cs a ∧ sz a ≤ Rows.uptoBulk x.1
theorem Dec.rel {α : Type} {P : Program} {t : TypeId} {enc : α → List Value} {sz : α → Nat} (h : Dec P t enc sz) : DecR P t (Pl enc) sz := fun H eh W base sp hd fuel cs x hx => h H eh W base sp hd fuel cs x hx
theorem decR_slice {α : Type} {P : Program} {t e : TypeId} {k : Nat} {R : Rep α} {sz : α → Nat} (hk : P.cellsOf e = k) (hk0 : 0 < k) (hd : DecR P e R sz) (ht : P.underlying t = some (.slice e)) {H : Type} {eh : TypeId × Value → H} {W : World} {base : Nat} {sp : Nat → Bool} {held : Bool} {fuel : Nat} {cs : List Value} {x : DataW H × List MemPlace}
    (hf : DataW.trod eh P W base sp held fuel t cs = some x) :
    ∃ v l, cs = [v] ∧ Sl R k (hp W) v l ∧ l.length ≤ Rows.uptoBulk x.1 ∧ ∀ a ∈ l, sz a ≤ Rows.uptoBulk x.1 := by
  rcases Go.Deep.open_slice ht hf with ⟨rfl, rfl⟩ | ⟨a, ln, cp, m, n, D, Q, rfl, hb, hl, hm, hmm, rfl, hel⟩
  · exact ⟨_, [], rfl, ⟨none, 0, rfl, Nat.le_refl _, Nat.zero_le _, fun h => absurd h (Nat.lt_irrefl _)⟩, Nat.zero_le _, by simp⟩
  · have hlm : ln ≤ m := by rw [hmm]; split <;> omega
    have hbulk : ∀ i, i < ln → Rows.uptoBulk (D i) ≤ Rows.uptoBulk (DataW.slice ((List.range ln).map D) ((List.range (m - ln)).map fun j => D (ln + j))) := fun i hi => by
      have := part_le (d := D i) (l := (List.range ln).map D) (List.mem_map.2 ⟨i, List.mem_range.2 hi, rfl⟩)
      simp only [Rows.uptoBulk]
      omega
    have hlen : ln ≤ Rows.uptoBulk (DataW.slice ((List.range ln).map D) ((List.range (m - ln)).map fun j => D (ln + j))) := by
      have := length_le ((List.range ln).map D)
      simp only [List.length_map, List.length_range] at this
      simp only [Rows.uptoBulk]
      omega
    simp only
    generalize Rows.uptoBulk (DataW.slice ((List.range ln).map D) ((List.range (m - ln)).map fun j => D (ln + j))) = B at hbulk hlen
    obtain ⟨l, hl1, hl2⟩ := list_of (α := α) (n := ln) (p := fun i x => ∃ cs', W.cells? base (a.add (i * k)) k = some cs' ∧ R (hp W) cs' x ∧ sz x ≤ B) fun i hi => by
      obtain ⟨cs', h1, h2⟩ := hel i (by omega)
      obtain ⟨x, hR, h3⟩ := hd _ _ _ _ _ _ _ _ _ h2
      rw [hk] at h1
      exact ⟨x, cs', h1, hR, Nat.le_trans h3 (hbulk i hi)⟩
    subst hl1
    refine ⟨_, l, rfl, ⟨some a, cp, rfl, hl, hm, fun h0 => ?_⟩, hlen, fun x hx => ?_⟩
    · have hget : ∀ i x, l[i]? = some x → ∃ cs', R (hp W) cs' x ∧ cs'.length = k ∧ ∀ j, j < k → W.cell? ((a.add (i * k)).add j) = cs'[j]? := fun i x hx =>
        let ⟨cs', h1, h2, _⟩ := hl2 i x hx
        let ⟨_, h3, h4⟩ := World.cells?_some h1
        ⟨cs', h2, h3, h4⟩
      obtain ⟨cs0, _, h4, h5⟩ := hget 0 l[0] (by simp [h0])
      have h6 := h5 0 hk0
      rw [Nat.zero_mul, List.getElem?_eq_getElem (by omega)] at h6
      have e0 : (a.add 0).add 0 = a := rfl
      rw [e0] at h6
      obtain ⟨cs, T, fr, h7, h8, _⟩ := cell_get h6
      obtain ⟨ab, ao, asp⟩ := a
      simp only at h7 h8
      subst h8
      refine ⟨ab, ao, cs, T, fr, rfl, h7, fun i x hx => ?_⟩
      obtain ⟨cs', gR, g1, g2⟩ := hget i x hx
      refine ⟨cs', g1, gR, fun j y hy => ?_⟩
      have hj : j < k := by
        rw [← g1]
        exact (List.getElem?_eq_some_iff.1 hy).1
      have h9 := g2 j hj
      rw [Go.Deep.add_add, hy] at h9
      obtain ⟨cs'', T', fr', h10, h11, h12⟩ := cell_get h9
      have hbk : (Addr.add ⟨ab, ao, none⟩ (i * k + j)).block = ab ∧ (Addr.add ⟨ab, ao, none⟩ (i * k + j)).off = ao + (i * k + j) := by
        unfold Addr.add
        split
        · rename_i hz
          rw [hz]; exact ⟨rfl, rfl⟩
        · exact ⟨rfl, rfl⟩
      rw [hbk.1, h7] at h10
      cases h10
      rw [hbk.2, ← Nat.add_assoc] at h12
      exact h12
    · obtain ⟨i, hi⟩ := List.mem_iff_getElem?.1 hx
      exact (hl2 i x hi).elim fun _ h => h.2.2
def szM {α : Type} (sz : α → Nat) : List α → Nat
  | [] => 0
  | a :: l => max (szM sz l) (sz a)
def szL {α : Type} (sz : α → Nat) (l : List α) : Nat := max l.length (szM sz l)
theorem szM_le {α : Type} {sz : α → Nat} {B : Nat} : ∀ (l : List α), (∀ a ∈ l, sz a ≤ B) → szM sz l ≤ B
  | [], _ => Nat.zero_le _
  | a :: l, h => Nat.max_le.2 ⟨szM_le l (fun b hb => h b (by simp [hb])), h a (by simp)⟩
theorem le_szM {α : Type} {sz : α → Nat} : ∀ (l : List α), ∀ a ∈ l, sz a ≤ szM sz l
  | b :: l, a, h => by
    rcases List.mem_cons.1 h with rfl | h
    · exact Nat.le_max_right _ _
    · exact Nat.le_trans (le_szM l a h) (Nat.le_max_left _ _)
theorem decR_nest {α : Type} {P : Program} {t e : TypeId} {k : Nat} {enc : α → List Value} {sz : α → Nat} (hk : P.cellsOf e = k) (hk0 : 0 < k) (hd : Dec P e enc sz) (ht : P.underlying t = some (.slice e)) : DecR P t (SlR enc k) (szL sz) := by
  intro H eh W base sp hd' fuel cs x h
  obtain ⟨v, l, rfl, h1, h2, h3⟩ := decR_slice hk hk0 hd.rel ht h
  exact ⟨l, ⟨v, rfl, h1⟩, Nat.max_le.2 ⟨h2, szM_le l h3⟩⟩
theorem sl2_of_trod {α H : Type} {eh : TypeId × Value → H} {P : Program} {t e e2 : TypeId} {k : Nat} {enc : α → List Value} {sz : α → Nat} (hk : P.cellsOf e2 = k) (hk0 : 0 < k) (hk1 : P.cellsOf e = 1) (hd : Dec P e2 enc sz)
    (ht : P.underlying t = some (.slice e)) (ht2 : P.underlying e = some (.slice e2)) {W : World} {base : Nat} {sp : Nat → Bool} {held : Bool} {v : Value} {d : DataW H} {ps : List MemPlace}
    (hc : v.cells.toList = [v]) (h : DataW.Trod eh P W base sp held t v d ps) :
    ∃ l : List (List α), Sl (SlR enc k) 1 (hp W) v l ∧ l.length ≤ Rows.uptoBulk d ∧ ∀ m ∈ l, m.length ≤ Rows.uptoBulk d ∧ ∀ a ∈ m, sz a ≤ Rows.uptoBulk d := by
  obtain ⟨fuel, hf⟩ := h
  obtain ⟨u, l, h1, h2, h3, h4⟩ := decR_slice hk1 (by decide) (decR_nest hk hk0 hd ht2) ht hf
  rw [hc] at h1
  cases h1
  exact ⟨l, h2, h3, fun m hm => ⟨Nat.le_trans (Nat.le_max_left _ _) (h4 m hm), fun a ha => Nat.le_trans (Nat.le_trans (le_szM m a ha) (Nat.le_max_right _ _)) (h4 m hm)⟩⟩
end Go.Proofs.Ytfjdjbdnnoijgaa.Lf
