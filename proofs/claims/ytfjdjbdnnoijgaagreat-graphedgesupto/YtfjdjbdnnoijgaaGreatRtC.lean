/- A part of the proof that the law GraphEdges answers true for every input of bulk at most 1048576. -/
import Derived.Test.YtfjdjbdnnoijgaaGreatRtB
set_option linter.all false
set_option linter.unusedSimpArgs false
set_option linter.unusedVariables false
namespace Go.Proofs.YtfjdjbdnnoijgaaGreat
open Go.RowKit

/-! ### what does not hang on the order -/
open Classical in
noncomputable def allOrders {α β : Type} (l : List α) (f : List α → Option β) : Option β :=
  if h : ∃ r, ∀ o, o.Perm l → f o = some r then some h.choose else none
theorem allOrders_spec {α β : Type} {l : List α} {f : List α → Option β} {r : β} (h : allOrders l f = some r) : ∀ o, o.Perm l → f o = some r := by
  unfold allOrders at h
  split at h
  · rename_i hx
    cases h
    exact hx.choose_spec
  · cases h
theorem allOrders_intro {α β : Type} {l : List α} {f : List α → Option β} {r : β} (h : ∀ o, o.Perm l → f o = some r) : allOrders l f = some r := by
  have hx : ∃ r, ∀ o, o.Perm l → f o = some r := ⟨r, h⟩
  unfold allOrders
  rw [dif_pos hx]
  have h1 := hx.choose_spec l (.refl l)
  rw [h l (.refl l)] at h1
  exact h1.symm
theorem bind_all {α β γ : Type} {Q : List α → Prop} {s : Option β} {f : List α → β → Option γ} {t : γ} (o : List α) (ho : Q o) (h : ∀ o, Q o → s.bind (f o) = some t) : ∃ x, s = some x ∧ ∀ o, Q o → f o x = some t := by
  cases s with
  | none => have := h o ho; cases this
  | some x => exact ⟨x, rfl, fun o ho => h o ho⟩

/-! ### a range over a map that is only read -/
def Iter {κ β : Type} (kenc : κ → Value) (vf : β → Value) (μ : Mem) (v : Value) (left : List (κ × β)) (R : List (Nat × Obj)) : Prop :=
  ∃ it, v = .pointer (some ⟨it, 0, none⟩) ∧ ((left = [] ∧ ∃ a s c, R = [(it, .mapIter none a s c)]) ∨
    ∃ (m : Nat) (es : Array MapEntry) (clock : Nat) (seen : Array Nat) (c0 : Nat) (l : List (κ × β)), μ m = some (.map es clock) ∧ MapOf kenc vf l es clock ∧ R = [(it, .mapIter (some m) clock seen c0)] ∧ clock ≤ c0 ∧ (leftOf es seen).toList.map (fun e => (e.key, e.val)) = left.map (fun p => (kenc p.1, vf p.2)))
/-- .. behind a step that gave p -/
def IterAt {κ β : Type} (kenc : κ → Value) (vf : β → Value) (μ : Mem) (v : Value) (left : List (κ × β)) (R : List (Nat × Obj)) (p : κ × β) : Prop :=
  ∃ (it m : Nat) (es : Array MapEntry) (clock : Nat) (seen : Array Nat) (l : List (κ × β)) (e : MapEntry), v = .pointer (some ⟨it, 0, none⟩) ∧ μ m = some (.map es clock) ∧ MapOf kenc vf l es clock ∧ R = [(it, .mapIter (some m) clock (seen.push e.born) clock)] ∧ e ∈ es.toList ∧ e.key = kenc p.1 ∧ e.val = vf p.2 ∧
    (leftOf es (seen.push e.born)).toList.map (fun e => (e.key, e.val)) = left.map (fun p => (kenc p.1, vf p.2))
section
variable {P : Program} {W : World} {κ β : Type} {kenc : κ → Value} {vf : β → Value} {E : Nat → Value} {d : Option Nat} {ty : TypeId} {pos : String} {af : Array Edge} {g : Option (Nat × Bool)} {F : Nat → Prop} {w : World} {μ : Mem} {L R : List (Nat × Obj)} {v : Value} {left : List (κ × β)}
theorem IterAt.iter {p : κ × β} (h : IterAt kenc vf μ v left R p) : Iter kenc vf μ v left R := by
  obtain ⟨it, m, es, clock, seen, l, e, h1, h2, h3, h4, _, _, _, h5⟩ := h
  exact ⟨it, h1, .inr ⟨m, es, clock, _, _, l, h2, h3, h4, Nat.le_refl _, h5⟩⟩
theorem Iter.mono {μ' : Mem} (h : Iter kenc vf μ v left R) (hs : Sub μ μ') : Iter kenc vf μ' v left R := by
  obtain ⟨it, h1, h | ⟨m, es, clock, seen, c0, l, h2, h3⟩⟩ := h
  · exact ⟨it, h1, .inl h⟩
  · exact ⟨it, h1, .inr ⟨m, es, clock, seen, c0, l, hs _ _ h2, h3⟩⟩
theorem E_range {Kk : Value → World → Prop} {t kt e : TypeId} {m : Operand} {mv : Value} {l : List (κ × β)} (ht : P.underlying t = some (.map kt e)) (hST : ST F w W μ L) (hm : evE E m = mv) (hM : MapAt kenc vf μ mv l)
    (hK : ∀ W' v R, ST F w W' μ (R ++ L) → Iter kenc vf μ v l R → Kk v W') : Eff P E ⟨d, .range t m, ty, pos, af, g⟩ W Kk := by
  rcases hM with ⟨rfl, rfl⟩ | ⟨mb, es, clock, rfl, hb, h3⟩
  · refine .inl ⟨_, _, ?_, hK (W.alloc (.mapIter none 0 #[] 0)) (.pointer (some ⟨W.heap.size, 0, none⟩)) [(W.heap.size, _)] (hST.alloc _) ⟨_, rfl, .inl ⟨rfl, _, _, _, rfl⟩⟩⟩
    show (do pure (.value (← Instr.range t (evE E m))) : Sem Next).run P W = _
    rw [hm]; simp [run_range_nilMap W t kt e ht]
  · refine .inl ⟨_, _, ?_, hK (W.alloc (.mapIter (some mb) clock #[] clock)) (.pointer (some ⟨W.heap.size, 0, none⟩)) [(W.heap.size, _)] (hST.alloc _) ⟨_, rfl, .inr ⟨mb, es, clock, #[], clock, l, hb, h3, rfl, Nat.le_refl _, ?_⟩⟩⟩
    · show (do pure (.value (← Instr.range t (evE E m))) : Sem Next).run P W = _
      rw [hm]; simp [run_range_map W t kt e mb es clock ht (hST.mem _ _ hb)]
    · rw [← h3.pairs]; simp only [leftOf, Array.toList_filter]; rw [List.filter_eq_self.2 (fun a _ => by simp)]
theorem leftOf_push {l : List (κ × β)} {es : Array MapEntry} {clock : Nat} (h : MapOf kenc vf l es clock) (seen : Array Nat) {e : MapEntry} (he : e ∈ (leftOf es seen).toList) :
    ∃ A B, (leftOf es seen).toList = A ++ e :: B ∧ (leftOf es (seen.push e.born)).toList = A ++ B := by
  have hnd : (leftOf es seen).toList.Pairwise (fun a b => a.born < b.born) := by
    simp only [leftOf, Array.toList_filter]
    exact h.born.filter _
  have hf : (leftOf es (seen.push e.born)).toList = (leftOf es seen).toList.filter (fun x => !(x.born == e.born)) := by
    simp only [leftOf, Array.toList_filter, List.filter_filter]
    congr 1
    funext x
    rw [show (seen.push e.born).contains x.born = (seen.contains x.born || x.born == e.born) by rw [Bool.eq_iff_iff]; simp [Array.mem_push]]
    cases seen.contains x.born <;> cases (x.born == e.born) <;> rfl
  obtain ⟨A, B, hAB⟩ := List.append_of_mem he
  refine ⟨A, B, hAB, ?_⟩
  rw [hf, hAB]
  rw [hAB] at hnd
  have h1 := List.pairwise_append.1 hnd
  have h2 := List.pairwise_cons.1 h1.2.1
  simp only [List.filter_append, List.filter_cons, beq_self_eq_true, Bool.not_true, Bool.false_eq_true, if_false]
  congr 1
  · rw [List.filter_eq_self]
    intro a ha
    have := h1.2.2 a ha e (by simp)
    simp; omega
  · rw [List.filter_eq_self]
    intro b hb
    have := h2.1 b hb
    simp; omega
theorem E_next {Kk : Value → World → Prop} (X : List (Nat × Obj)) {Y : List (Nat × Obj)} {x : Operand} (hST : ST F w W μ (X ++ (R ++ Y))) (h : Iter kenc vf μ v left R) (hx : evE E x = v)
    (hend : left = [] → Kk (.tuple #[.bool false]) W) (hstep : ∀ W' R' p left', left.Perm (p :: left') → ST F w W' μ (X ++ (R' ++ Y)) → IterAt kenc vf μ v left' R' p → Kk (.tuple #[.bool true, kenc p.1, vf p.2]) W') :
    Eff P E ⟨d, .next x false, ty, pos, af, g⟩ W Kk := by
  have hr : ∀ v' W', (Instr.next v false ty).run P W = .ok v' W' → (execOp (evE E) ⟨d, .next x false, ty, pos, af, g⟩).run P W = .ok (.value v') W' := by
    intro v' W' hv
    show (do pure (.value (← Instr.next (evE E x) false ty)) : Sem Next).run P W = _
    rw [hx]; simp [hv]
  obtain ⟨it, rfl, ⟨rfl, a, s, c, rfl⟩ | ⟨m, es, clock, seen, c0, l, h2, h3, rfl, h4, h5⟩⟩ := h
  · have hb := (hST.box it (.mapIter none a s c) (by simp)).1
    refine .inl ⟨.tuple #[.bool false], W, hr _ _ ?_, hend rfl⟩
    simp only [Instr.next, getObj, Sem.run_bind, Sem.run, hb, Result.andThen]
    rfl
  · have hb := (hST.box it (.mapIter (some m) clock seen c0) (by simp)).1
    rcases run_next_at (P := P) W ty it m clock c0 seen es clock hb (hST.mem _ _ h2) h3.lt h4 with ⟨h6, h7⟩ | ⟨e, h6, w1, h7, h8⟩
    · refine .inl ⟨_, W, hr _ _ h7, hend ?_⟩
      have := congrArg List.length h5
      simp [h6] at this
      exact List.length_eq_zero_iff.1 this.symm
    · obtain ⟨A, B, hA, hB⟩ := leftOf_push h3 seen h6
      rw [hA] at h5
      have hl : ∃ LA p LB, left = LA ++ p :: LB ∧ A.map (fun e => (e.key, e.val)) = LA.map (fun p => (kenc p.1, vf p.2)) ∧ (e.key, e.val) = (kenc p.1, vf p.2) ∧ B.map (fun e => (e.key, e.val)) = LB.map (fun p => (kenc p.1, vf p.2)) := by
        rw [List.map_append, List.map_cons] at h5
        obtain ⟨LA, LB', e1, e2, e3⟩ := List.map_eq_append_iff.1 h5.symm
        obtain ⟨p, LB, e4, e5, e6⟩ := List.map_eq_cons_iff.1 e3
        exact ⟨LA, p, LB, by rw [e1, e4], e2.symm, e5.symm, e6.symm⟩
      obtain ⟨LA, p, LB, rfl, e2, e3, e4⟩ := hl
      have he : e ∈ es.toList := by
        have : e ∈ (leftOf es seen).toList := h6
        simp only [leftOf, Array.toList_filter] at this
        exact (List.mem_filter.1 this).1
      simp only [Prod.mk.injEq] at e3
      rw [e3.1, e3.2] at h8
      have hST1 : ST F w w1 μ (X ++ ([(it, .mapIter (some m) clock seen c0)] ++ Y)) := by
        rcases h7 with rfl | rfl
        · exact hST
        · exact hST.drew
      refine .inl ⟨_, _, hr _ _ h8, hstep _ [(it, _)] p (LA ++ LB) List.perm_middle (ST.setBlock (A := X) hST1 _) ⟨it, m, es, clock, seen, l, e, rfl, h2, h3, rfl, he, e3.1, e3.2, ?_⟩⟩
      rw [hB, List.map_append, e2, e4, List.map_append]
theorem born_nodup {l : List (κ × β)} {es : Array MapEntry} {clock : Nat} (h : MapOf kenc vf l es clock) : (es.toList.map (·.born)).Nodup := by
  rw [List.Nodup, List.pairwise_map]
  exact h.born.imp (fun h => Nat.ne_of_lt h)
theorem R_entry {x : Operand} {p : κ × β} (hH : ∀ q, q ∈ R → W.heap[q.1]? = some q.2) (hm : ∀ b o, μ b = some o → W.heap[b]? = some o) (h : IterAt kenc vf μ v left R p) (hx : evE E x = v) :
    Runs P E ⟨d, .entry x, ty, pos, af, g⟩ W (.tuple #[kenc p.1, vf p.2]) W := by
  obtain ⟨it, m, es, clock, seen, l, e, rfl, h2, h3, rfl, h4, h5, h6, _⟩ := h
  have := run_entry_at (P := P) W it m clock seen es clock e (hH _ (List.mem_singleton.2 rfl)) (hm _ _ h2) h4 (born_nodup h3)
  show (do pure (.value (← Instr.entry (evE E x))) : Sem Next).run P W = _
  rw [hx, ← h5, ← h6]
  simp [this]
end
end Go.Proofs.YtfjdjbdnnoijgaaGreat
