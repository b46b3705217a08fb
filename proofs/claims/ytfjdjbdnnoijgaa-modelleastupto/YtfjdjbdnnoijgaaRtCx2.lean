/- a part of a proof of ModelLeast -/
import Derived.Test.YtfjdjbdnnoijgaaRtBx2
set_option linter.all false
namespace Go.Proofs.Ytfjdjbdnnoijgaa
open Go.RowKit
variable {dd : Bool}
open Classical in
noncomputable def allOrders {α β : Type} (l : List α) (f : List α → Option β) : Option β :=
  if h : ∃ r, ∀ o, o.Perm l → f o = some r then some h.choose else none
theorem allOrders_spec {α β : Type} {l : List α} {f : List α → Option β} {r : β} (h : allOrders l f = some r) : ∀ o, o.Perm l → f o = some r := by
  unfold allOrders at h
  split at h
  · rename_i hx
    cases h
    exact hx.choose_spec
  · cases h
theorem allOrders_intro {α β : Type} {l : List α} {f : List α → Option β} {r : β} (h : ∀ o, o.Perm l → f o = some r) : allOrders l f = some r := by
  have hx : ∃ r, ∀ o, o.Perm l → f o = some r := ⟨r, h⟩
  unfold allOrders
  rw [dif_pos hx]
  have h1 := hx.choose_spec l (.refl l)
  rw [h l (.refl l)] at h1
  exact h1.symm
def Iter {κ β : Type} (kenc : κ → Value) (vf : β → Value) (μ : Mem) (v : Value) (left : List (κ × β)) (R : List (Nat × Obj)) : Prop :=
  ∃ it, v = .pointer (some ⟨it, 0, none⟩) ∧ ((left = [] ∧ ∃ a s c, R = [(it, .mapIter none a s c)]) ∨
    ∃ (m : Nat) (es : Array MapEntry) (clock : Nat) (seen : Array Nat) (c0 : Nat) (l : List (κ × β)), μ m = some (.map es clock) ∧ MapOf kenc vf l es clock ∧ R = [(it, .mapIter (some m) clock seen c0)] ∧ clock ≤ c0 ∧ (leftOf es seen).toList.map (fun e => (e.key, e.val)) = left.map (fun p => (kenc p.1, vf p.2)))
def IterAt {κ β : Type} (kenc : κ → Value) (vf : β → Value) (μ : Mem) (v : Value) (left : List (κ × β)) (R : List (Nat × Obj)) (p : κ × β) : Prop :=
  ∃ (it m : Nat) (es : Array MapEntry) (clock : Nat) (seen : Array Nat) (l : List (κ × β)) (e : MapEntry), v = .pointer (some ⟨it, 0, none⟩) ∧ μ m = some (.map es clock) ∧ MapOf kenc vf l es clock ∧ R = [(it, .mapIter (some m) clock (seen.push e.born) clock)] ∧ e ∈ es.toList ∧ e.key = kenc p.1 ∧ e.val = vf p.2 ∧
    (leftOf es (seen.push e.born)).toList.map (fun e => (e.key, e.val)) = left.map (fun p => (kenc p.1, vf p.2))
section
variable {P : Program} {W : World} {κ β : Type} {kenc : κ → Value} {vf : β → Value} {E : Nat → Value} {d : Option Nat} {ty : TypeId} {pos : String} {af : Array Edge} {g : Option (Nat × Bool)} {F : Nat → Prop} {w : World} {μ : Mem} {L R : List (Nat × Obj)} {v : Value} {left : List (κ × β)}
theorem IterAt.iter {p : κ × β} (h : IterAt kenc vf μ v left R p) : Iter kenc vf μ v left R := by
  obtain ⟨it, m, es, clock, seen, l, e, h1, h2, h3, h4, _, _, _, h5⟩ := h
  exact ⟨it, h1, .inr ⟨m, es, clock, _, _, l, h2, h3, h4, Nat.le_refl _, h5⟩⟩
theorem Iter.mono {μ' : Mem} (h : Iter kenc vf μ v left R) (hs : Sub μ μ') : Iter kenc vf μ' v left R := by
  obtain ⟨it, h1, h | ⟨m, es, clock, seen, c0, l, h2, h3⟩⟩ := h
  · exact ⟨it, h1, .inl h⟩
  · exact ⟨it, h1, .inr ⟨m, es, clock, seen, c0, l, hs _ _ h2, h3⟩⟩
theorem leftOf_push {l : List (κ × β)} {es : Array MapEntry} {clock : Nat} (h : MapOf kenc vf l es clock) (seen : Array Nat) {e : MapEntry} (he : e ∈ (leftOf es seen).toList) :
    ∃ A B, (leftOf es seen).toList = A ++ e :: B ∧ (leftOf es (seen.push e.born)).toList = A ++ B := by
  have hnd : (leftOf es seen).toList.Pairwise (fun a b => a.born < b.born) := by
    simp only [leftOf, Array.toList_filter]
    exact h.born.filter _
  have hf : (leftOf es (seen.push e.born)).toList = (leftOf es seen).toList.filter (fun x => !(x.born == e.born)) := by
    simp only [leftOf, Array.toList_filter, List.filter_filter]
    congr 1
    funext x
    rw [show (seen.push e.born).contains x.born = (seen.contains x.born || x.born == e.born) by rw [Bool.eq_iff_iff]; simp [Array.mem_push]]
    cases seen.contains x.born <;> cases (x.born == e.born) <;> rfl
  obtain ⟨A, B, hAB⟩ := List.append_of_mem he
  refine ⟨A, B, hAB, ?_⟩
  rw [hf, hAB]
  rw [hAB] at hnd
  have h1 := List.pairwise_append.1 hnd
  have h2 := List.pairwise_cons.1 h1.2.1
  simp only [List.filter_append, List.filter_cons, beq_self_eq_true, Bool.not_true, Bool.false_eq_true, if_false]
  congr 1
  · rw [List.filter_eq_self]
    intro a ha
    have := h1.2.2 a ha e (by simp)
    simp; omega
  · rw [List.filter_eq_self]
    intro b hb
    have := h2.1 b hb
    simp; omega
theorem born_nodup {l : List (κ × β)} {es : Array MapEntry} {clock : Nat} (h : MapOf kenc vf l es clock) : (es.toList.map (·.born)).Nodup := by
  rw [List.Nodup, List.pairwise_map]
  exact h.born.imp (fun h => Nat.ne_of_lt h)
theorem R_entry {x : Operand} {p : κ × β} (hH : ∀ q, q ∈ R → W.heap[q.1]? = some q.2) (hm : ∀ b o, μ b = some o → W.heap[b]? = some o) (h : IterAt kenc vf μ v left R p) (hx : evE E x = v) :
    Runs P E ⟨d, .entry x, ty, pos, af, g⟩ W (.tuple #[kenc p.1, vf p.2]) W := by
  obtain ⟨it, m, es, clock, seen, l, e, rfl, h2, h3, rfl, h4, h5, h6, _⟩ := h
  have := run_entry_at (P := P) W it m clock seen es clock e (hH _ (List.mem_singleton.2 rfl)) (hm _ _ h2) h4 (born_nodup h3)
  show (do pure (.value (← Instr.entry (evE E x))) : Sem Next).run P W = _
  rw [hx, ← h5, ← h6]
  simp [this]
end
end Go.Proofs.Ytfjdjbdnnoijgaa
