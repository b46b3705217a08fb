/- a part of a proof of ModelLeast -/
import Derived.Test.YtfjdjbdnnoijgaaNbx2
set_option linter.all false
namespace Go.Proofs.Ytfjdjbdnnoijgaa
open Go.RowKit
theorem index_C (c : Cred) : ∀ (l : List Cred) (i : Nat), ∃ z, m_slices_Index_Cred_L1 c l i = some z ∧ (z ≥ 0 ↔ c ∈ l)
  | [], i => ⟨-1, rfl, by simp⟩
  | x :: l, i => by
    rw [m_slices_Index_Cred_L1]
    by_cases h : beqCred c x = true
    · rw [if_pos h]
      exact ⟨_, rfl, by simp [beqCred_iff.1 h]⟩
    · rw [if_neg h]
      obtain ⟨z, e, hz⟩ := index_C c l (i + 1)
      refine ⟨z, e, ?_⟩
      rw [hz, List.mem_cons]
      exact ⟨.inr, fun h2 => h2.resolve_left (fun e => h (beqCred_iff.2 e))⟩
theorem cred_Has (c : Cred) (l : List Cred) : ∃ b, m_cred_Has l c = some b ∧ (b = true ↔ c ∈ l) := by
  obtain ⟨z, e, hz⟩ := index_C c l 0
  refine ⟨decide (z ≥ 0), ?_, by simpa using hz⟩
  unfold m_cred_Has m_slices_Contains_Cred m_slices_Index_Cred
  rw [e]
  rfl
theorem note_L1 (c : Cred) (ws : List (ByteArray × List Cred)) (C : List Cred) (hw : ∀ w, ((mget beqS ws w).getD []).length ≤ 2000000) : ∀ (rs : List Role) (us : List (Role × List Cred)), (∀ r, ((mget beqRole us r).getD []).length + rs.length ≤ 4000000) →
    ∃ us' ws', m_model_Model_note_w_L1 c ws C rs us = some (C, us', ws') ∧ (∀ r x, x ∈ (mget beqRole us' r).getD [] ↔ x ∈ (mget beqRole us r).getD [] ∨ (x = c ∧ r ∈ rs)) ∧
      (∀ w x, x ∈ (mget beqS ws' w).getD [] ↔ x ∈ (mget beqS ws w).getD [] ∨ (x = c ∧ c.Kind = 3 ∧ w = c.Word2)) ∧ (∀ r, ((mget beqRole us' r).getD []).length ≤ ((mget beqRole us r).getD []).length + rs.length) ∧
      (∀ w, ((mget beqS ws' w).getD []).length ≤ ((mget beqS ws w).getD []).length + 1)
  | [], us, _ => by
    rw [m_model_Model_note_w_L1]
    by_cases h3 : c.Kind = 3
    · rw [if_pos (by simp [h3])]
      have h := hw c.Word2
      rw [appB_ok (by simp; omega) (by simp; omega)]
      simp only [Option.bind_some]
      refine ⟨us, _, rfl, by simp, fun w x => ?_, by simp, fun w => ?_⟩
      · rw [mget_mput beqS_iff]
        by_cases hk : beqS w c.Word2 = true
        · rw [if_pos hk, beqS_iff.1 hk]; simp [h3]
        · rw [if_neg hk]
          have : w ≠ c.Word2 := fun e => hk (beqS_iff.2 e)
          simp [this]
      · rw [mget_mput beqS_iff]
        by_cases hk : beqS w c.Word2 = true
        · rw [if_pos hk, beqS_iff.1 hk]; simp
        · rw [if_neg hk]; exact Nat.le_succ _
    · rw [if_neg (by simp [h3])]
      exact ⟨us, ws, rfl, by simp, by simp [h3], by simp, by simp⟩
  | r0 :: rs, us, hl => by
    rw [m_model_Model_note_w_L1]
    have h := hl r0
    simp only [List.length_cons] at h
    rw [appB_ok (by simp; omega) (by simp; omega)]
    simp only [Option.bind_some]
    have hget : ∀ r, (mget beqRole (mput beqRole us r0 (((mget beqRole us r0).getD []) ++ [c])) r).getD [] = if beqRole r r0 = true then ((mget beqRole us r0).getD []) ++ [c] else (mget beqRole us r).getD [] := fun r => by
      rw [mget_mput beqRole_iff]; by_cases hk : beqRole r r0 = true
      · rw [if_pos hk, if_pos hk]; rfl
      · rw [if_neg hk, if_neg hk]
    obtain ⟨us', ws', e, a1, a2, a3, a4⟩ := note_L1 c ws C hw rs (mput beqRole us r0 (((mget beqRole us r0).getD []) ++ [c])) (fun r => by
      rw [hget r]
      have h2 := hl r
      simp only [List.length_cons] at h2
      by_cases hk : beqRole r r0 = true
      · rw [if_pos hk]; simp; omega
      · rw [if_neg hk]; omega)
    refine ⟨us', ws', e, fun r x => ?_, a2, fun r => ?_, a4⟩
    · rw [a1, hget]
      by_cases hk : beqRole r r0 = true
      · rw [if_pos hk, beqRole_iff.1 hk]
        simp only [List.mem_append, List.mem_cons, List.not_mem_nil, or_false]
        constructor
        · rintro ((h | h) | h)
          · exact .inl h
          · exact .inr ⟨h, .inl trivial⟩
          · exact .inr ⟨h.1, .inr h.2⟩
        · rintro (h | h)
          · exact .inl (.inl h)
          · exact .inl (.inr h.1)
      · rw [if_neg hk]
        have : r ≠ r0 := fun e => hk (beqRole_iff.2 e)
        simp [this]
    · have := a3 r
      rw [hget r] at this
      by_cases hk : beqRole r r0 = true
      · rw [if_pos hk] at this; rw [beqRole_iff.1 hk] at this ⊢; simp at this ⊢; omega
      · rw [if_neg hk] at this; simp; omega
theorem note_ok {C : List Cred} {us : List (Role × List Cred)} {ws : List (ByteArray × List Cred)} (hU : Uses C us ws) (hC : C.length + 1 ≤ 1000000) {c : Cred} (hr : rightC c = true) (i : List (Role × List (ByteArray × Bool))) (td : List Fact) (n : Int) :
    ∃ us' ws', m_model_Model_note_w i C us ws td n c = some (C ++ [c], us', ws') ∧ Uses (C ++ [c]) us' ws' := by
  unfold m_model_Model_note_w
  rw [appB_ok (by simp; omega) (by simp; omega)]
  simp only [Option.bind_some, rolesC hr]
  rw [show chk (decide ((0 : Nat) ≤ 1) && decide ((1 : Int) ≤ ((c.Head :: rolesOf c).length : Int))) = some () by simp [chk]; omega]
  simp only [Option.bind_some, show Int.toNat 1 = 1 from rfl, List.drop_one, List.tail_cons]
  have hro : (rolesOf c).length ≤ 2 := by unfold rolesOf; split; simp; split <;> simp
  obtain ⟨us', ws', e, a1, a2, a3, a4⟩ := note_L1 c ws (C ++ [c]) (fun w => by have := hU.wlen w; omega) (rolesOf c) us (fun r => by have := hU.rlen r; omega)
  refine ⟨us', ws', e, fun r x => ?_, fun w x => ?_, fun r => ?_, fun w => ?_⟩
  · rw [a1, hU.role, List.mem_append, List.mem_singleton]
    constructor
    · rintro (h | h)
      · exact ⟨.inl h.1, h.2⟩
      · exact ⟨.inr h.1, by rw [h.1]; exact h.2⟩
    · rintro ⟨h | h, h2⟩
      · exact .inl ⟨h, h2⟩
      · exact .inr ⟨h, by rw [← h]; exact h2⟩
  · rw [a2, hU.word, List.mem_append, List.mem_singleton]
    constructor
    · rintro (h | h)
      · exact ⟨.inl h.1, h.2⟩
      · exact ⟨.inr h.1, by rw [h.1]; exact ⟨h.2.1, h.2.2.symm⟩⟩
    · rintro ⟨h | h, h2⟩
      · exact .inl ⟨h, h2⟩
      · subst h; exact .inr ⟨rfl, h2.1, h2.2.symm⟩
  · have := a3 r; have := hU.rlen r; simp; omega
  · have := a4 w; have := hU.wlen w; simp; omega
structure MS (C : List Cred) (T : Tab) (us : List (Role × List Cred)) (ws : List (ByteArray × List Cred)) (n : Int) : Prop where
  good : Good C T [] n
  cl : ∀ c ∈ C, ClC c T []
  uses : Uses C us ws
  right : Rights C
theorem MS.all {C : List Cred} {T : Tab} {us : List (Role × List Cred)} {ws : List (ByteArray × List Cred)} {n : Int} (h : MS C T us ws n) (f : Fact) : f ∈ FS T ↔ Der C f := by
  refine ⟨h.good.der f, fun hd => ?_⟩
  induction hd with
  | mem c hc hk => exact (h.cl c hc).1 hk
  | inc c w hc hk _ ih => exact (h.cl c hc).2.1 hk w ih (by simp)
  | lnk c b w hc hk _ _ ih1 ih2 => exact (h.cl c hc).2.2.1 hk b w ih1 (by simp) ih2 (by simp)
  | both c w hc hk _ _ ih1 ih2 => exact (h.cl c hc).2.2.2 hk w ih1 (by simp) ih2 (by simp)
theorem add_L1 (n0 : Int) (hn0 : 0 ≤ n0 ∧ n0 ≤ 1000000000000) : ∀ (l : List Cred) {C : List Cred} {T : Tab} {td : List Fact} {us : List (Role × List Cred)} {ws : List (ByteArray × List Cred)} {n : Int}, Good C T td n → (∀ c ∈ C, ClC c T td) → Uses C us ws → Rights C → C.length + l.length ≤ 1000000 →
    ∃ C' T' us' ws' n', m_model_Model_Add_w_L1 n0 l (mm T) C us ws td n = some (n' - n0, mm T', C', us', ws', [], n') ∧ MS C' T' us' ws' n' ∧ (∀ c, c ∈ C' ↔ c ∈ C ∨ (c ∈ l ∧ rightC c = true)) ∧ C'.length ≤ C.length + l.length ∧ (∀ f ∈ FS T, f ∈ FS T')
  | [], C, T, td, us, ws, n, g, hcl, hU, hR, hl => by
    rw [m_model_Model_Add_w_L1]
    have hC : SMALL C := by unfold SMALL; simp at hl; omega
    have hsq := hC.sq
    have hlen := g.len
    have htl := g.tlen
    obtain ⟨T', n', e, g', c', o⟩ := settle_L1 hC hR hU (cs := C) FUEL g hcl (by rw [FUEL_eq]; omega)
    unfold m_model_Model_settle_w
    rw [e]
    simp only [Option.bind_some]
    have hlen' := g'.len
    have hnum := g'.num
    rw [wrap_in (by omega) (by omega)]
    exact ⟨C, T', us, ws, n', rfl, ⟨g', c', hU, hR⟩, by simp, by simp, o⟩
  | x :: l, C, T, td, us, ws, n, g, hcl, hU, hR, hl => by
    rw [m_model_Model_Add_w_L1, m_cred_Right_eq]
    simp only [List.length_cons] at hl
    obtain ⟨b, hb, hb2⟩ := cred_Has x C
    simp only [Option.bind_some, hb, andS]
    by_cases hx : rightC x = true ∧ x ∉ C
    · have hbf : b = false := by cases b with | false => rfl | true => exact absurd (hb2.1 rfl) hx.2
      rw [hx.1, hbf]
      simp only [Bool.not_false, Bool.and_self, if_true]
      obtain ⟨us1, ws1, e1, U1⟩ := note_ok hU (by omega) hx.1 (mm T) td n
      rw [e1]
      simp only [Option.bind_some]
      have hC1 : SMALL (C ++ [x]) := by unfold SMALL; simp; omega
      have hR1 : Rights (C ++ [x]) := fun c hc => by
        rcases List.mem_append.1 hc with h | h
        · exact hR c h
        · simp at h; subst h; exact hx.1
      have g1 : Good (C ++ [x]) T td n := g.mono (fun c hc => List.mem_append_left _ hc)
      obtain ⟨T2, td2, n2, e2, g2, x2, c2⟩ := begin_ok hC1 hR1 g1 (C ++ [x]) us1 ws1 (c := x) (by simp)
      rw [e2]
      simp only [Option.bind_some]
      have hcl2 : ∀ c ∈ C ++ [x], ClC c T2 td2 := fun c hc => by
        rcases List.mem_append.1 hc with h | h
        · exact (hcl c h).ext x2
        · simp at h; subst h; exact c2
      obtain ⟨C', T', us', ws', n', e, m, a1, a2, a3⟩ := add_L1 n0 hn0 l g2 hcl2 U1 hR1 (by simp; omega)
      refine ⟨C', T', us', ws', n', e, m, fun c => ?_, by simp at a2 ⊢; omega, fun f hf => a3 f (x2.old f hf)⟩
      rw [a1]
      simp only [List.mem_append, List.mem_cons, List.not_mem_nil, or_false]
      constructor
      · rintro ((h | h) | h)
        · exact .inl h
        · subst h; exact .inr ⟨.inl rfl, hx.1⟩
        · exact .inr ⟨.inr h.1, h.2⟩
      · rintro (h | ⟨h | h, h2⟩)
        · exact .inl (.inl h)
        · exact .inl (.inr h)
        · exact .inr ⟨h, h2⟩
    · have hf : (rightC x && !b) = false := by
        cases hr : rightC x with
        | false => rfl
        | true =>
          have : x ∈ C := Classical.byContradiction fun hn => hx ⟨hr, hn⟩
          rw [hb2.2 this]; rfl
      rw [hf]
      simp only [Bool.false_eq_true, if_false]
      obtain ⟨C', T', us', ws', n', e, m, a1, a2, a3⟩ := add_L1 n0 hn0 l g hcl hU hR (by omega)
      refine ⟨C', T', us', ws', n', e, m, fun c => ?_, by simp; omega, a3⟩
      rw [a1, List.mem_cons]
      constructor
      · rintro (h | h)
        · exact .inl h
        · exact .inr ⟨.inr h.1, h.2⟩
      · rintro (h | ⟨h | h, h2⟩)
        · exact .inl h
        · subst h
          exact .inl (Classical.byContradiction fun hn => hx ⟨h2, hn⟩)
        · exact .inr ⟨h, h2⟩
theorem add_ok {C : List Cred} {T : Tab} {us : List (Role × List Cred)} {ws : List (ByteArray × List Cred)} {n : Int} (h : MS C T us ws n) (l : List Cred) (hl : C.length + l.length ≤ 1000000) :
    ∃ C' T' us' ws' n', m_model_Model_Add_w (mm T) C us ws [] n l = some (n' - n, mm T', C', us', ws', [], n') ∧ MS C' T' us' ws' n' ∧ (∀ c, c ∈ C' ↔ c ∈ C ∨ (c ∈ l ∧ rightC c = true)) ∧ C'.length ≤ C.length + l.length ∧ (∀ f ∈ FS T, f ∈ FS T') := by
  have hC : SMALL C := by unfold SMALL; omega
  have h1 := h.good.len
  have h2 := hC.sq
  have h3 := h.good.num
  exact add_L1 n ⟨by omega, by omega⟩ l h.good h.cl h.uses h.right hl
theorem Uses.zero : Uses [] [] [] := ⟨fun r c => by simp [mget], fun w c => by simp [mget], fun r => by simp [mget], fun w => by simp [mget]⟩
theorem Good.zero : Good [] [] [] 0 := ⟨by simp, by simp [FS], by simp, by simp, by simp [FS], by simp [FS]⟩
theorem MS.zero : MS [] [] [] [] 0 := ⟨Good.zero, fun c hc => (by cases hc), Uses.zero, fun c hc => (by cases hc)⟩
theorem of_ok (l : List Cred) (hl : l.length ≤ 1000000) : ∃ C T us ws n, m_model_Of l = some (mm T, C, us, ws, [], n) ∧ MS C T us ws n ∧ (∀ c, c ∈ C ↔ c ∈ l ∧ rightC c = true) ∧ C.length ≤ l.length := by
  unfold m_model_Of
  obtain ⟨C', T', us', ws', n', e, m, a1, a2, a3⟩ := add_ok MS.zero l (by simpa using hl)
  rw [show m_model_Model_Add_w [] [] [] [] [] 0 l = _ from e]
  exact ⟨C', T', us', ws', n', rfl, m, by simpa using a1, by simpa using a2⟩
theorem Der.congr {C C' : List Cred} (h : ∀ c, c ∈ C ↔ c ∈ C') (f : Fact) : Der C f ↔ Der C' f := ⟨fun d => d.mono (fun c hc => (h c).1 hc), fun d => d.mono (fun c hc => (h c).2 hc)⟩
end Go.Proofs.Ytfjdjbdnnoijgaa
