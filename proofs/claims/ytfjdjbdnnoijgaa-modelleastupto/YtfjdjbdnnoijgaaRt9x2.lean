/- a part of a proof of ModelLeast -/
import Derived.Test.YtfjdjbdnnoijgaaRt8x2
set_option linter.all false
namespace Go.Proofs.Ytfjdjbdnnoijgaa
open Go.RowKit
variable {dd : Bool}
def IxR (R : List (Nat × Obj)) (k : Nat) (p : Value) (i : Nat) : Prop := ∃ g o, R = [(g, o)] ∧ p = .pointer (some ⟨g, i * k, none⟩)
section
variable {P : Program} {E : Nat → Value} {W : World} {d : Option Nat} {ty : TypeId} {pos : String} {af : Array Edge} {g : Option (Nat × Bool)}
  {F : Nat → Prop} {w : World} {μ : Mem} {L : List (Nat × Obj)} {α : Type} {e' : TypeId} {enc : α → List Value} {k : Nat} {v : Value} {l : List α} {R : List (Nat × Obj)}
theorem R_indexRow {t e : TypeId} {x ix : Operand} {ik : IntKind} {i : Int} {x0 : α}
    (ht : P.underlying t = some (.slice e)) (he : ∀ w, (sizeOf e).run P w = .ok k w) (hx : evE E x = v) (hi : evE E ix = .int ik i) (h : Row e' enc k v l R) (h0 : 0 ≤ i) (hl : l[i.toNat]? = some x0) :
    ∃ p, IxR R k p i.toNat ∧ ∀ W, Runs P E ⟨d, .indexAddr t x ix, ty, pos, af, g⟩ W p W := by
  have hlt : i.toNat < l.length := (List.getElem?_eq_some_iff.1 hl).1
  rcases h with ⟨rfl, rfl, rfl⟩ | ⟨g', cap, cur, rfl, rfl, h1, h2, h3, h4⟩
  · simp at hlt
  refine ⟨.pointer (some ⟨g', i.toNat * k, none⟩), ⟨_, _, rfl, rfl⟩, fun W => ?_⟩
  show (do pure (.value (← Instr.indexAt t (evE E x) (evE E ix))) : Sem Next).run P W = _
  rw [hx, hi]
  have hb : 0 ≤ i ∧ i < (l.length : Int) := ⟨h0, by omega⟩
  simp [Instr.indexAt, asIntOf, run_underlying ht, he W, hb, Addr.add_lit]
theorem ix_cells (h : Row e' enc k v l R) (hk : ∀ x, (enc x).length = k) {p : Value} {i : Nat} (hp : IxR R k p i) {x0 : α} (hl : l[i]? = some x0) :
    ∃ g cur cap, R = [(g, .cells cur e' (0, 0))] ∧ v = .slice (some ⟨g, 0, none⟩) l.length cap ∧ l.length ≤ cap ∧ cap ≤ maxLen ∧ cur.size = cap * k ∧ cur.toList.take (l.length * k) = (l.map enc).flatten ∧ p = .pointer (some ⟨g, i * k, none⟩) ∧ ∀ j y, (enc x0)[j]? = some y → cur[i * k + j]? = some y := by
  have hlt : i < l.length := (List.getElem?_eq_some_iff.1 hl).1
  rcases h with ⟨rfl, rfl, rfl⟩ | ⟨g', cap, cur, rfl, rfl, h1, h2, h3, h4⟩
  · simp at hlt
  obtain ⟨g2, o, e1, rfl⟩ := hp
  cases e1
  refine ⟨g', cur, cap, rfl, rfl, h1, h2, h3, h4, rfl, fun j y hy => ?_⟩
  have := flat_get hk l i x0 hl j y hy
  rw [← h4] at this
  have hlt2 : i * k + j < l.length * k := by
    have := (List.getElem?_eq_some_iff.1 this).1
    simp at this; omega
  rw [List.getElem?_take_of_lt hlt2] at this
  simpa using this
theorem load_ixA {A : List (Nat × Obj)} (hH : Has μ A W) (hA : ∀ q, q ∈ R → q ∈ A) (h : Row e' enc k v l R) (hk : ∀ x, (enc x).length = k) {p : Value} {i : Nat} (hp : IxR R k p i) {x0 : α} (hl : l[i]? = some x0) {t : TypeId}
    (hG : ∀ w, (isAgg t).run P w = .ok true w) (hS : ∀ w, (sizeOf t).run P w = .ok k w) : (Instr.loadAt t p).run P W = .ok (.agg (enc x0).toArray) W := by
  obtain ⟨g', cur, cap, rfl, rfl, _, _, _, _, rfl, h5⟩ := ix_cells h hk hp hl
  exact run_loadAgg hG (enc x0) (by rw [hk]; exact hS) (hH.2 _ _ (hA _ (List.mem_singleton.2 rfl))) h5
theorem load_ix1 {A : List (Nat × Obj)} (hH : Has μ A W) (hA : ∀ q, q ∈ R → q ∈ A) (h : Row e' enc k v l R) (hk : ∀ x, (enc x).length = k) {p : Value} {i : Nat} (hp : IxR R k p i) {x0 : α} (hl : l[i]? = some x0) {t : TypeId} {y : Value} (hy : enc x0 = [y])
    (hG : ∀ w, (isAgg t).run P w = .ok false w) : (Instr.loadAt t p).run P W = .ok y W := by
  obtain ⟨g', cur, cap, rfl, rfl, _, _, _, _, rfl, h5⟩ := ix_cells h hk hp hl
  exact run_loadOne hG (hH.2 _ _ (hA _ (List.mem_singleton.2 rfl))) (h5 0 y (by rw [hy]; rfl))
theorem flat_set (hk : ∀ x, (enc x).length = k) : ∀ (l : List α) (i : Nat) (y : α), i < l.length → ((l.set i y).map enc).flatten = (l.map enc).flatten.take (i * k) ++ enc y ++ (l.map enc).flatten.drop (i * k + k)
  | [], i, y, h => by simp at h
  | z :: l, 0, y, h => by
    simp [hk]
  | z :: l, i + 1, y, h => by
    have := flat_set hk l i y (by simpa using h)
    simp only [List.set_cons_succ, List.map_cons, List.flatten_cons, this]
    have h1 : (i + 1) * k = (enc z).length + i * k := by rw [hk, Nat.add_mul]; omega
    rw [h1, List.take_length_add_append, Nat.add_assoc, List.drop_length_add_append]
    simp
theorem E_storeRow {K : Value → World → Prop} (X : List (Nat × Obj)) {Y : List (Nat × Obj)} {t : TypeId} {x y : Operand} {p u : Value} {i : Nat} {x0 x1 : α} (hST : ST dd F w W μ (X ++ (R ++ Y))) (h : Row e' enc k v l R) (hk : ∀ x, (enc x).length = k) (h1 : ∀ x, ∀ u ∈ enc x, u.oneCell' = true)
    (hx : evE E x = p) (hy : evE E y = u) (hu : u.cells = (enc x1).toArray) (hp : IxR R k p i) (hl : l[i]? = some x0) (hS : ∀ w, (sizeOf t).run P w = .ok k w)
    (hK : ∀ W' R', ST dd F w W' μ (X ++ (R' ++ Y)) → Row e' enc k v (l.set i x1) R' → K undef W') : Eff P E ⟨d, .store t x y, ty, pos, af, g⟩ W K := by
  have hlt : i < l.length := (List.getElem?_eq_some_iff.1 hl).1
  obtain ⟨g', cur, cap, rfl, rfl, h2, h3, h4, h5, rfl, h6⟩ := ix_cells h hk hp hl
  have hle : i * k + k ≤ cap * k := by
    have : (i + 1) * k ≤ cap * k := Nat.mul_le_mul_right _ (by omega)
    rwa [Nat.add_mul, Nat.one_mul] at this
  have hle2 : i * k + k ≤ l.length * k := by
    have : (i + 1) * k ≤ l.length * k := Nat.mul_le_mul_right _ (by omega)
    rwa [Nat.add_mul, Nat.one_mul] at this
  have hcl : u.cells.size = k := by rw [hu]; simp [hk]
  have hb := (hST.box g' (.cells cur e' (0, 0)) (by simp)).1
  have hlen : l.length * k ≤ cap * k := Nat.mul_le_mul_right _ h2
  refine .inr (.inl ⟨W.setRow g' (cur.toList.take (i * k) ++ (enc x1) ++ cur.toList.drop (i * k + k)).toArray, ?_, hK _ [(g', .cells (cur.toList.take (i * k) ++ (enc x1) ++ cur.toList.drop (i * k + k)).toArray e' (0, 0))] (hST.store _) (.inr ⟨g', cap, _, by simp, rfl, by simpa using h2, h3, ?_, ?_⟩)⟩)
  · show (do Instr.storeAt t (evE E x) (evE E y); pure .skip : Sem Next).run P W = _
    rw [hx, hy]
    have := run_storeBlock P (off := i * k) u (by rw [hcl]; exact hS) (by rw [hu]; simpa using h1 x1) hb (by rw [hcl, h4]; exact hle)
    simp only [Sem.run_bind, this, Result.andThen_ok, Sem.run_pure, hcl]
    rw [hu]
  · show ((cur.toList.take (i * k) ++ (enc x1) ++ cur.toList.drop (i * k + k)).toArray).size = _
    have e0 : cur.toList.length = cap * k := by simpa using h4
    rw [List.size_toArray, List.length_append, List.length_append, List.length_take, List.length_drop, hk, e0, Nat.min_eq_left (by omega)]; omega
  · rw [List.length_set, flat_set hk l i x1 hlt, ← h5]
    have e1 : (cur.toList.take (l.length * k)).take (i * k) = cur.toList.take (i * k) := by rw [List.take_take]; congr 1; omega
    have e2 : (cur.toList.take (l.length * k)).drop (i * k + k) = (cur.toList.drop (i * k + k)).take (l.length * k - (i * k + k)) := by rw [List.drop_take]
    rw [e1, e2]
    show List.take (l.length * k) (cur.toList.take (i * k) ++ enc x1 ++ cur.toList.drop (i * k + k)) = _
    have e0 : cur.toList.length = cap * k := by simpa using h4
    have e3 : (cur.toList.take (i * k) ++ enc x1).length = i * k + k := by rw [List.length_append, List.length_take, hk, e0, Nat.min_eq_left (by omega)]
    rw [List.take_append, List.take_of_length_le (by rw [e3]; exact hle2), e3]
theorem flat_take (hk : ∀ x, (enc x).length = k) : ∀ (l : List α) (i : Nat), i ≤ l.length → ((l.take i).map enc).flatten = (l.map enc).flatten.take (i * k)
  | [], i, h => by simp
  | z :: l, 0, h => by simp
  | z :: l, i + 1, h => by
    have := flat_take hk l i (by simpa using h)
    simp only [List.take_succ_cons, List.map_cons, List.flatten_cons, this]
    rw [show (i + 1) * k = (enc z).length + i * k by rw [hk, Nat.add_mul]; omega, List.take_length_add_append]
theorem R_sliceTo {t e : TypeId} {x ih : Operand} {ik : IntKind} {i : Int} (ht : P.underlying t = some (.slice e)) (he : ∀ w, (sizeOf e).run P w = .ok k w) (hx : evE E x = v) (hi : evE E ih = .int ik i) (h : Row e' enc k v l R) (hk : ∀ x, (enc x).length = k) (h0 : 0 ≤ i) (hl : i ≤ l.length) :
    ∃ v', Row e' enc k v' (l.take i.toNat) R ∧ ∀ W, Runs P E ⟨d, .slice t x none (some ih) none, ty, pos, af, g⟩ W v' W := by
  have hlt : i.toNat ≤ l.length := by omega
  rcases h with ⟨rfl, rfl, rfl⟩ | ⟨g', cap, cur, rfl, rfl, h1, h2, h3, h4⟩
  · have : i = 0 := by simp at hl; omega
    subst this
    refine ⟨.slice none 0 0, .inl ⟨rfl, by simp, rfl⟩, fun W => ?_⟩
    show (do pure (.value (← Instr.sliceAt t (evE E x) none (some (evE E ih)) none)) : Sem Next).run P W = _
    rw [hx, hi]
    simp [Instr.sliceAt, Instr.slice, Instr.sliceBounds, Instr.sliceBound, asIntOf, run_underlying ht, he W]
  · refine ⟨.slice (some ⟨g', 0, none⟩) (l.take i.toNat).length cap, .inr ⟨g', cap, cur, rfl, rfl, by simp; omega, h2, h3, ?_⟩, fun W => ?_⟩
    · have e0 : (l.take i.toNat).length = i.toNat := by rw [List.length_take]; omega
      have hle : i.toNat * k ≤ l.length * k := Nat.mul_le_mul_right _ hlt
      rw [e0, flat_take hk l i.toNat hlt, ← h4, List.take_take, Nat.min_eq_left hle]
    · show (do pure (.value (← Instr.sliceAt t (evE E x) none (some (evE E ih)) none)) : Sem Next).run P W = _
      rw [hx, hi]
      have hb : 0 ≤ i ∧ i ≤ (cap : Int) := ⟨h0, by omega⟩
      simp [Instr.sliceAt, Instr.slice, Instr.sliceBounds, Instr.sliceBound, asIntOf, run_underlying ht, he W, hb, Addr.add_lit]
      omega
theorem R_sliceFrom {Rp : Rep α} {t e : TypeId} {x il : Operand} {ik : IntKind} {i : Int} (ht : P.underlying t = some (.slice e)) (he : ∀ w, (sizeOf e).run P w = .ok k w) (hx : evE E x = v) (hi : evE E il = .int ik i) (h : Sl Rp k μ v l) (h0 : 0 ≤ i) (hl : i ≤ l.length) :
    ∃ v', (Sl Rp k μ v' (l.drop i.toNat) ∧ ∀ B, Fr B v → Fr B v') ∧ ∀ W, Runs P E ⟨d, .slice t x (some il) none none, ty, pos, af, g⟩ W v' W := by
  obtain ⟨A, c, rfl, h2, h3, h4⟩ := h
  have hlt : i.toNat ≤ l.length := by omega
  refine ⟨.slice (if c = i.toNat then A else A.map (·.add (i.toNat * k))) (l.drop i.toNat).length (c - i.toNat), ⟨⟨_, _, rfl, by simp; omega, by omega, fun hp => ?_⟩, fun B hF b hb => ?_⟩, fun W => ?_⟩
  · have hp' : i.toNat < l.length := by simp at hp; omega
    obtain ⟨b, off, cs, T, fr, rfl, h6, h7⟩ := h4 (by omega)
    refine ⟨b, off + i.toNat * k, cs, T, fr, ?_, h6, fun j x hx => ?_⟩
    · rw [if_neg (by omega)]; simp [Addr.add_lit]
    · rw [List.getElem?_drop] at hx
      obtain ⟨ys, h8, h9, h10⟩ := h7 _ x hx
      refine ⟨ys, h8, h9, fun q y hy => ?_⟩
      have := h10 q y hy
      rw [Nat.add_mul] at this
      rw [show off + i.toNat * k + j * k + q = off + (i.toNat * k + j * k) + q by omega]
      exact this
  · refine hF b ?_
    cases A with
    | none => simp [Value.ownBlock] at hb
    | some a =>
      split at hb
      · exact hb
      · obtain ⟨b', o', s'⟩ := a
        cases s' <;> simp [Value.ownBlock, Addr.add] at hb ⊢ <;> split at hb <;> exact hb
  · show (do pure (.value (← Instr.sliceAt t (evE E x) (some (evE E il)) none none)) : Sem Next).run P W = _
    rw [hx, hi]
    have hb : 0 ≤ i ∧ i ≤ (l.length : Int) := ⟨h0, hl⟩
    simp [Instr.sliceAt, Instr.slice, Instr.sliceBounds, Instr.sliceBound, asIntOf, run_underlying ht, he W, hb]
theorem ST.pubRow {X Y : List (Nat × Obj)} (hST : ST dd F w W μ (X ++ (R ++ Y))) (h : Row e' enc k v l R) (hk : ∀ x, (enc x).length = k) : ∃ μ', ST dd F w W μ' (X ++ Y) ∧ Sub μ μ' ∧ Sl (Pl enc) k μ' v l := by
  rcases h with ⟨rfl, rfl, rfl⟩ | ⟨g', cap, cur, rfl, rfl, h1, h2, h3, h4⟩
  · exact ⟨μ, hST, Sub.refl _, Sl.nil _ _ _⟩
  · exact ⟨_, ST.publish (A := X) hST, ST.pub_sub (A := X) hST, Row.sl (.inr ⟨g', cap, cur, rfl, rfl, h1, h2, h3, h4⟩) hk (fun b o hb => by
      obtain ⟨rfl, rfl⟩ := Prod.mk.inj (List.mem_singleton.1 hb)
      exact if_pos rfl)⟩
end
end Go.Proofs.Ytfjdjbdnnoijgaa
