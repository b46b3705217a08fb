/- a part of a proof of ModelLeast -/
import Derived.Test.YtfjdjbdnnoijgaaRtFx2
set_option linter.all false
namespace Go.Proofs.Ytfjdjbdnnoijgaa
open Go.RowKit
variable {dd : Bool}
def chk (b : Bool) : Option Unit := if b = true then some () else none
theorem chk_true {b : Bool} {u : Unit} (h : chk b = some u) : b = true := by
  unfold chk at h; split at h
  · assumption
  · cases h
theorem chk_1 {a c : Int} {u : Unit} (h : chk (decide (0 ≤ a) && decide (a ≤ c)) = some u) : 0 ≤ a := by have := chk_true h; simp at this; exact this.1
theorem chk_2 {a c : Int} {u : Unit} (h : chk (decide (0 ≤ a) && decide (a ≤ c)) = some u) : a ≤ c := by have := chk_true h; simp at this; exact this.2
def TailV (k : Nat) (v : Value) (i : Nat) (u : Value) : Prop := ∃ A n c A' c', v = .slice A n c ∧ u = .slice A' (n - i) c' ∧ i ≤ n ∧ (i < n → ∃ b o, A = some ⟨b, o, none⟩ ∧ A' = some ⟨b, o + i * k, none⟩)
section
variable {P : Program} {E : Nat → Value} {W : World} {d : Option Nat} {ty : TypeId} {pos : String} {af : Array Edge} {g : Option (Nat × Bool)}
  {F : Nat → Prop} {w : World} {μ : Mem} {L : List (Nat × Obj)} {α : Type} {e' : TypeId} {enc : α → List Value} {k : Nat} {v : Value} {l : List α} {R : List (Nat × Obj)}
theorem R_sliceTail {t e : TypeId} {x il : Operand} {ik : IntKind} {i : Int} (ht : P.underlying t = some (.slice e)) (he : ∀ w, (sizeOf e).run P w = .ok k w) (hx : evE E x = v) (hi : evE E il = .int ik i) (h : Row e' enc k v l R) (h0 : 0 ≤ i) (hl : i ≤ l.length) :
    ∃ u, TailV k v i.toNat u ∧ ∀ W, Runs P E ⟨d, .slice t x (some il) none none, ty, pos, af, g⟩ W u W := by
  rcases h with ⟨rfl, rfl, rfl⟩ | ⟨g', cap, cur, rfl, rfl, h1, h2, h3, h4⟩
  · have : i = 0 := by simp at hl; omega
    subst this
    refine ⟨.slice none 0 0, ⟨none, 0, 0, none, 0, rfl, rfl, Nat.le_refl _, fun h => absurd h (by simp)⟩, fun W => ?_⟩
    show (do pure (.value (← Instr.sliceAt t (evE E x) (some (evE E il)) none none)) : Sem Next).run P W = _
    rw [hx, hi]
    simp [Instr.sliceAt, Instr.slice, Instr.sliceBounds, Instr.sliceBound, asIntOf, run_underlying ht, he W]
  · refine ⟨.slice (some (if cap = i.toNat then ⟨g', 0, none⟩ else (Addr.add ⟨g', 0, none⟩ (i.toNat * k)))) (l.length - i.toNat) (cap - i.toNat), ⟨_, _, _, _, _, rfl, rfl, by omega, fun hlt => ⟨g', 0, rfl, ?_⟩⟩, fun W => ?_⟩
    · rw [if_neg (by omega)]; simp [Addr.add_lit]
    · show (do pure (.value (← Instr.sliceAt t (evE E x) (some (evE E il)) none none)) : Sem Next).run P W = _
      rw [hx, hi]
      have hb : 0 ≤ i ∧ i ≤ (l.length : Int) := ⟨h0, hl⟩
      simp [Instr.sliceAt, Instr.slice, Instr.sliceBounds, Instr.sliceBound, asIntOf, run_underlying ht, he W, hb]
      split <;> rfl
theorem tail_get {i j : Nat} {x0 : α} (h : (l.drop i)[j]? = some x0) : l[i + j]? = some x0 := by rwa [List.getElem?_drop] at h
theorem R_lenTail {t e : TypeId} {x : Operand} {u : Value} {i : Nat} (ht : P.underlying t = some (.slice e)) (hx : evE E x = u) (hu : TailV k v i u) (h : Row e' enc k v l R) : Runs P E ⟨d, .call ⟨.builtin .len, #[x], #[t]⟩, ty, pos, af, g⟩ W (.int .i64 ((l.length - i : Nat) : Int)) W := by
  obtain ⟨A, n, c, A', c', h1, h2, h3, _⟩ := hu
  subst h2
  have : n = l.length := by
    rcases h with ⟨rfl, rfl, rfl⟩ | ⟨g', cap, cur, rfl, rfl, _⟩
    · cases h1; rfl
    · cases h1; rfl
  subst this
  exact R_lenSl ht hx
theorem R_indexTail {t e : TypeId} {x ix : Operand} {ik : IntKind} {i : Int} {x0 : α} {u : Value} {o : Nat}
    (ht : P.underlying t = some (.slice e)) (he : ∀ w, (sizeOf e).run P w = .ok k w) (hx : evE E x = u) (hi : evE E ix = .int ik i) (h : Row e' enc k v l R) (hu : TailV k v o u) (h0 : 0 ≤ i) (hl : (l.drop o)[i.toNat]? = some x0) :
    ∃ p, IxR R k p (o + i.toNat) ∧ ∀ W, Runs P E ⟨d, .indexAddr t x ix, ty, pos, af, g⟩ W p W := by
  have hl' := tail_get hl
  have hlt : o + i.toNat < l.length := (List.getElem?_eq_some_iff.1 hl').1
  rcases h with ⟨rfl, rfl, rfl⟩ | ⟨g', cap, cur, rfl, rfl, h1, h2, h3, h4⟩
  · simp at hlt
  obtain ⟨A, n, c, A', c', e1, rfl, h7, h8⟩ := hu
  cases e1
  obtain ⟨b, oo, e2, rfl⟩ := h8 (by omega)
  cases e2
  refine ⟨.pointer (some ⟨g', (o + i.toNat) * k, none⟩), ⟨_, _, rfl, rfl⟩, fun W => ?_⟩
  show (do pure (.value (← Instr.indexAt t (evE E x) (evE E ix))) : Sem Next).run P W = _
  rw [hx, hi]
  have hb : 0 ≤ i ∧ i < ((l.length - o : Nat) : Int) := ⟨h0, by omega⟩
  simp [Instr.indexAt, asIntOf, run_underlying ht, he W, hb, Addr.add_lit, Nat.add_mul]
theorem zeroCells_list (ys : List Value) (m : Nat) : (Builtin.zeroCells ys.toArray m).toList = (List.replicate m ys).flatten := by
  unfold Builtin.zeroCells
  simp only [Array.toList_map, Array.toList_range, List.size_toArray]
  rcases Nat.eq_zero_or_pos ys.length with h0 | h0
  · have : ys = [] := List.length_eq_zero_iff.1 h0
    subst this
    simp
  apply List.ext_getElem?
  intro q
  by_cases hq : q < m * ys.length
  · have h1 : q / ys.length < m := (Nat.div_lt_iff_lt_mul h0).2 hq
    have h2 : q % ys.length < ys.length := Nat.mod_lt _ h0
    have := flat_get (enc := fun _ : Unit => ys) (fun _ => rfl) (List.replicate m ()) (q / ys.length) () (by simp [h1]) (q % ys.length) ys[q % ys.length] (by simp [h2])
    rw [Nat.div_add_mod' q ys.length] at this
    rw [List.map_replicate] at this
    rw [this]
    simp [hq, h2]
  · rw [List.getElem?_eq_none (by simp; omega), List.getElem?_eq_none (by simp; omega)]
theorem E_clearTail {K : Value → World → Prop} (z : α) (X : List (Nat × Obj)) {Y : List (Nat × Obj)} {t e : TypeId} {x : Operand} {u zv : Value} {i : Nat} (hST : ST dd F w W μ (X ++ (R ++ Y))) (h : Row e' enc k v l R) (hk : ∀ x, (enc x).length = k) (h1 : ∀ x, ∀ u ∈ enc x, u.oneCell' = true)
    (ht : P.underlying t = some (.slice e)) (hz : ∀ w, (zeroValue e).run P w = .ok zv w) (hu : TailV k v i u) (hc : zv.cells = (enc z).toArray) (hx : evE E x = u)
    (hK : ∀ W' R', ST dd F w W' μ (X ++ (R' ++ Y)) → Row e' enc k v (clearT l i z) R' → K (.tuple #[]) W') : Eff P E ⟨d, .call ⟨.builtin .clear, #[x], #[t]⟩, ty, pos, af, g⟩ W K := by
  have hrun : ∀ (W' : World), (Builtin.clear_ #[t] ty #[u]).run P W = .ok (.tuple #[]) W' → (execOp (evE E) ⟨d, .call ⟨.builtin .clear, #[x], #[t]⟩, ty, pos, af, g⟩).run P W = .ok (.value (.tuple #[])) W' := by
    intro W' hV
    show (do let d ← resolve (evE E) ⟨.builtin .clear, #[x], #[t]⟩ ty; invoke d.target d.args : Sem Next).run P W = _
    simp [resolve, invoke, builtin, hx, hV]
  obtain ⟨A, n, c, A', c', e1, rfl, h7, h8⟩ := hu
  rcases h with ⟨rfl, rfl, rfl⟩ | ⟨g', cap, cur, rfl, rfl, q1, q2, q3, q4⟩
  · cases e1
    refine .inl ⟨_, W, hrun W ?_, hK W [] hST (by simpa [clearT] using Row.nil e' enc k)⟩
    simp only [Builtin.clear_, Nat.zero_sub]
    cases A' <;> simp [run_underlying ht]
  · cases e1
    by_cases hi : i < l.length
    · obtain ⟨b, o, e2, rfl⟩ := h8 hi
      cases e2
      have hzr : ∀ m, (Builtin.zeroCells zv.cells m).toList = (List.replicate m (enc z)).flatten := by
        intro m
        rw [hc]; exact zeroCells_list _ _
      have hb := (hST.box g' (.cells cur e' (0, 0)) (by simp)).1
      have hle : i * k + (l.length - i) * k = l.length * k := by rw [← Nat.add_mul]; congr 1; omega
      have hlen : l.length * k ≤ c * k := Nat.mul_le_mul_right _ q1
      have hzl : ((List.replicate (l.length - i) (enc z)).flatten).length = (l.length - i) * k := by simp [hk]
      have hone : ∀ v ∈ (List.replicate (l.length - i) (enc z)).flatten, v.oneCell' = true := by
        intro v hv
        obtain ⟨ys, hys, hv⟩ := List.mem_flatten.1 hv
        rw [(List.mem_replicate.1 hys).2] at hv
        exact h1 z v hv
      have hs := run_storeCells_at (P := P) g' (i * k) e' ((List.replicate (l.length - i) (enc z)).flatten) 0 cur W hb (by rw [hzl, q3]; omega) hone
      rw [Nat.add_zero, hzl, hle] at hs
      refine .inl ⟨_, W.setRow g' (cur.toList.take (i * k) ++ (List.replicate (l.length - i) (enc z)).flatten ++ cur.toList.drop (l.length * k)).toArray, hrun _ ?_, hK _ [(g', .cells (cur.toList.take (i * k) ++ (List.replicate (l.length - i) (enc z)).flatten ++ cur.toList.drop (l.length * k)).toArray e' (0, 0))] (hST.store _) (.inr ⟨g', c, _, by rw [clearT_length _ _ _ h7], rfl, by rw [clearT_length _ _ _ h7]; exact q1, q2, ?_, ?_⟩)⟩
      · have hn : l.length - i = (l.length - i - 1) + 1 := by omega
        simp only [Builtin.clear_]
        rw [hn]
        simp only [run_underlying ht, Sem.run_bind, Result.andThen_ok, List.getElem?_toArray, List.getElem?_cons_zero, hz, Nat.zero_add]
        rw [← hn, hzr, hs]
        simp
      · have e0 : cur.toList.length = c * k := by simpa using q3
        rw [List.size_toArray, List.length_append, List.length_append, List.length_take, List.length_drop, hzl, e0, Nat.min_eq_left (by omega)]
        omega
      · rw [clearT_length _ _ _ h7, clearT, List.map_append, List.flatten_append, flat_take hk l i h7, ← q4, List.take_take, Nat.min_eq_left (by omega), List.map_replicate]
        have e0 : cur.toList.length = c * k := by simpa using q3
        have e3 : (cur.toList.take (i * k) ++ (List.replicate (l.length - i) (enc z)).flatten).length = l.length * k := by rw [List.length_append, List.length_take, hzl, e0, Nat.min_eq_left (by omega)]; omega
        show List.take (l.length * k) (cur.toList.take (i * k) ++ (List.replicate (l.length - i) (enc z)).flatten ++ cur.toList.drop (l.length * k)) = _
        rw [List.take_append, List.take_of_length_le (by rw [e3]; exact Nat.le_refl _), e3, Nat.sub_self]
        simp
    · have hi' : i = l.length := by omega
      subst hi'
      refine .inl ⟨_, W, hrun W ?_, hK W _ hST ?_⟩
      · simp only [Builtin.clear_, Nat.sub_self]
        cases A' <;> simp [run_underlying ht]
      · simp only [clearT, List.take_length, Nat.sub_self, List.replicate_zero, List.append_nil]
        exact .inr ⟨g', c, cur, rfl, rfl, q1, q2, q3, q4⟩
end
end Go.Proofs.Ytfjdjbdnnoijgaa
