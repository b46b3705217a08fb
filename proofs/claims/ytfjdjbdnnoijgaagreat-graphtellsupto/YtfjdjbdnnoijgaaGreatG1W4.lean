/- A part of the proof that the law GraphTells answers true for every input of bulk at most 1048576. -/
import Derived.Test.YtfjdjbdnnoijgaaGreatG1W3
set_option linter.all false
set_option linter.unusedSimpArgs false
set_option linter.unusedVariables false
namespace Go.Proofs.YtfjdjbdnnoijgaaGreat
open Go.RowKit
set_option linter.unusedVariables false
set_option linter.unusedSimpArgs false
set_option maxRecDepth 10000
theorem w_ref03_Same (v_a0 : Value) (a0 : List ByteArray) (v_a1 : Value) (a1 : List ByteArray) (r : Bool) (w : World) (h_a0 : Sl (Pl encS) 1 (hp w) v_a0 a0) (h_a1 : Sl (Pl encS) 1 (hp w) v_a1 a1) (hm : m_ref03_Same a0 a1 = some r) :
    Gives Tryz.prog 22 [v_a0, v_a1] w (.bool r) := by
  have hST := ST.start w
  unfold m_ref03_Same at hm
  refine calls_of_CW (n := 26) Tryz.func22 rfl rfl (Nat.le_of_ble_eq_true rfl) ?_
  refine CW_seq ?_
  refine CW_region ?_
  refine LW_v (.inl rfl) rfl (by decide) (R_assign (v := (.bool false)) rfl) ?_
  refine LW_nil ?_
  refine sq_n ?_
  refine CW_seq ?_
  refine CW_seq ?_
  refine CW_region ?_
  refine LW_v (.inl rfl) rfl (by decide) (R_move (v := v_a0) rfl) ?_
  refine LW_v (.inl rfl) rfl (by decide) (R_len Tryz.underlying27 rfl h_a0) ?_
  refine LW_v (.inl rfl) rfl (by decide) (R_move (v := v_a1) rfl) ?_
  refine LW_v (.inl rfl) rfl (by decide) (R_len Tryz.underlying27 rfl h_a1) ?_
  refine LW_v (.inl rfl) rfl (by decide) (R_int (k := .i64) (a := ((a0.length : Int))) (b := ((a1.length : Int))) (v := (.bool ((((a0.length : Int)) != ((a1.length : Int)))))) rfl rfl rfl) ?_
  refine LW_nil ?_
  refine sq_n ?_
  refine CW_if (b := (((a0.length : Int)) != ((a1.length : Int)))) rfl (fun hb1 => ?_) (fun hb1 => ?_)
  · replace hm := if_t hb1 hm
    refine CW_seq ?_
    refine CW_region ?_
    refine LW_v (.inl rfl) rfl (by decide) (R_assign (v := (.bool false)) rfl) ?_
    refine LW_nil ?_
    refine sq_n ?_
    refine CW_ret ?_
    refine sq_r ?_
    replace hm := Option.some.inj hm; subst hm
    refine retQ_1 (v := (.bool false)) rfl rfl ?_
    exact ⟨rfl, hST.ex⟩
  · replace hm := if_f hb1 hm
    refine CW_skip ?_
    refine sq_n ?_
    refine CW_seq ?_
    refine CW_seq ?_
    refine CW_region ?_
    refine LW_v (.inl rfl) rfl (by decide) (R_move (v := v_a0) rfl) ?_
    refine LW_v (.inl rfl) rfl (by decide) (R_len Tryz.underlying27 rfl h_a0) ?_
    refine LW_v (.inl rfl) rfl (by decide) (R_move (v := (.int .i64 0)) rfl) ?_
    refine LW_nil ?_
    refine sq_n ?_
    refine CW_range (fun i E W => ∃  (L109 : List (Nat × Obj)), (E 13 = .int .i64 (i : Nat) ∧ E 12 = .int .i64 (a0.length : Nat)) ∧ ST NoF w W (hp w) L109 ∧ E 0 = v_a0 ∧ E 1 = v_a1 ∧ m_ref03_Same_L1 a1 (a0.drop i) i = some r) a0.length h_a0.len ⟨_, ⟨rfl, rfl⟩, (hST.sublist (List.Sublist.refl _)), rfl, rfl, hm⟩ (by decide) (by decide) (by decide) (fun _ _ _ h => by obtain ⟨_, eIN, _⟩ := h; exact eIN) ?_ ?_
    · rintro i66 E W hi72 ⟨L109, ⟨eI, eN⟩, hST, e111, e112, hm110⟩
      obtain ⟨x67, xs68, hx70, hx69, hx71⟩ := drop_cons hi72
      rw [hx70] at hm110
      rw [m_ref03_Same_L1] at hm110
      refine CW_block ?_
      refine CW_seq ?_
      refine CW_region ?_
      refine LW_v (.inl rfl) rfl (by decide) (R_move (v := (.int .i64 ((i66 : Int)))) eI) ?_
      refine LW_v (.inl rfl) rfl (by decide) (R_assign (v := (.int .i64 ((i66 : Int)))) rfl) ?_
      refine LW_nil ?_
      refine sq_n ?_
      refine CW_seq ?_
      refine PW_start (Has (hp w) []) Tryz_mixed ?_
      replace hST := hST.drew
      have hSS : (Has (hp w) [] _) := ((show ST NoF w _ _ L109 from hST).has.sub (Sub.refl _) (fun p hq => (absurd hq List.not_mem_nil)))
      refine PW_v 0 rfl (by kernel_rfl) (by kernel_rfl) (by kernel_rfl) (.inl rfl) rfl (by decide) hSS (fun W hS => R_move (v := v_a0) e111) ?_
      refine PW_v 1 rfl (by kernel_rfl) (by kernel_rfl) (by kernel_rfl) (.inl rfl) rfl (by decide) hSS (fun W hS => R_move (v := (.int .i64 ((i66 : Int)))) rfl) ?_
      refine PW_q 2 rfl (by kernel_rfl) (by kernel_rfl) (by kernel_rfl) (.inl rfl) rfl (by decide) hSS (R_indexP (enc := encS) (i := (i66 : Int)) (x0 := x67) Tryz.underlying27 Tryz.sizeOf9 rfl rfl h_a0 (Int.natCast_nonneg _) hx69) (fun p121 hp122 => ?_)
      refine PW_v 3 rfl (by kernel_rfl) (by kernel_rfl) (by kernel_rfl) (.inl rfl) rfl (by decide) hSS (fun W hS => R_load rfl (load_at1 hS (y := (.string x67)) hp122 Tryz.isAgg9)) ?_
      refine PW_v 4 rfl (by kernel_rfl) (by kernel_rfl) (by kernel_rfl) (.inl rfl) rfl (by decide) hSS (fun W hS => R_move (v := v_a1) e112) ?_
      refine PW_v 5 rfl (by kernel_rfl) (by kernel_rfl) (by kernel_rfl) (.inl rfl) rfl (by decide) hSS (fun W hS => R_move (v := (.int .i64 ((i66 : Int)))) rfl) ?_
      obtain ⟨x127, hx128, hm110⟩ := bind_some hm110
      refine PW_q 6 rfl (by kernel_rfl) (by kernel_rfl) (by kernel_rfl) (.inl rfl) rfl (by decide) hSS (R_indexP (enc := encS) (i := (i66 : Int)) (x0 := x127) Tryz.underlying27 Tryz.sizeOf9 rfl rfl h_a1 (idx_nonneg hx128) (idx_get hx128)) (fun p124 hp125 => ?_)
      refine PW_v 7 rfl (by kernel_rfl) (by kernel_rfl) (by kernel_rfl) (.inl rfl) rfl (by decide) hSS (fun W hS => R_load rfl (load_at1 hS (y := (.string x127)) hp125 Tryz.isAgg9)) ?_
      refine PW_v 8 rfl (by kernel_rfl) (by kernel_rfl) (by kernel_rfl) (.inl rfl) rfl (by decide) hSS (fun W hS => R_str (a := x67) (b := x127) (v := (.bool ((!(beqS x67 x127))))) rfl rfl rfl) ?_
      refine PW_done (by kernel_rfl) ?_
      refine sq_n ?_
      refine CW_if (b := (!(beqS x67 x127))) rfl (fun hb129 => ?_) (fun hb129 => ?_)
      · replace hm110 := if_t hb129 hm110
        refine CW_seq ?_
        refine CW_region ?_
        refine LW_v (.inl rfl) rfl (by decide) (R_assign (v := (.bool false)) rfl) ?_
        refine LW_nil ?_
        refine sq_n ?_
        refine CW_ret ?_
        refine bq_r (sq_r (bq_r (sq_r ?_)))
        replace hm110 := Option.some.inj hm110; subst hm110
        refine retQ_1 (v := (.bool false)) rfl rfl ?_
        exact ⟨rfl, hST.ex⟩
      · replace hm110 := if_f hb129 hm110
        refine CW_skip ?_
        refine bq_n ?_
        refine sq_n ?_
        exact ⟨eI, _, ⟨rfl, eN⟩, (hST.sublist (List.Sublist.refl _)), e111, e112, (by rw [hx71]; exact hm110)⟩
    · rintro E W ⟨L109, ⟨eI, eN⟩, hST, e111, e112, hm110⟩
      rw [List.drop_length] at hm110
      rw [m_ref03_Same_L1] at hm110
      refine sq_n ?_
      refine CW_seq ?_
      refine CW_region ?_
      refine LW_v (.inl rfl) rfl (by decide) (R_assign (v := (.bool true)) rfl) ?_
      refine LW_nil ?_
      refine sq_n ?_
      refine CW_ret ?_
      replace hm110 := Option.some.inj hm110; subst hm110
      refine retQ_1 (v := (.bool true)) rfl rfl ?_
      exact ⟨rfl, hST.ex⟩

theorem w_ref05_Same (v_a0 : Value) (a0 : List Cred) (v_a1 : Value) (a1 : List Cred) (r : Bool) (w : World) (h_a0 : Sl (Pl encCred) 9 (hp w) v_a0 a0) (h_a1 : Sl (Pl encCred) 9 (hp w) v_a1 a1) (hm : m_ref05_Same a0 a1 = some r) :
    Gives Tryz.prog 24 [v_a0, v_a1] w (.bool r) := by
  have hST := ST.start w
  unfold m_ref05_Same at hm
  refine calls_of_CW (n := 26) Tryz.func24 rfl rfl (Nat.le_of_ble_eq_true rfl) ?_
  refine CW_seq ?_
  refine CW_region ?_
  refine LW_v (.inl rfl) rfl (by decide) (R_assign (v := (.bool false)) rfl) ?_
  refine LW_nil ?_
  refine sq_n ?_
  refine CW_seq ?_
  refine CW_seq ?_
  refine CW_region ?_
  refine LW_v (.inl rfl) rfl (by decide) (R_move (v := v_a0) rfl) ?_
  refine LW_v (.inl rfl) rfl (by decide) (R_len Tryz.underlying22 rfl h_a0) ?_
  refine LW_v (.inl rfl) rfl (by decide) (R_move (v := v_a1) rfl) ?_
  refine LW_v (.inl rfl) rfl (by decide) (R_len Tryz.underlying22 rfl h_a1) ?_
  refine LW_v (.inl rfl) rfl (by decide) (R_int (k := .i64) (a := ((a0.length : Int))) (b := ((a1.length : Int))) (v := (.bool ((((a0.length : Int)) != ((a1.length : Int)))))) rfl rfl rfl) ?_
  refine LW_nil ?_
  refine sq_n ?_
  refine CW_if (b := (((a0.length : Int)) != ((a1.length : Int)))) rfl (fun hb1 => ?_) (fun hb1 => ?_)
  · replace hm := if_t hb1 hm
    refine CW_seq ?_
    refine CW_region ?_
    refine LW_v (.inl rfl) rfl (by decide) (R_assign (v := (.bool false)) rfl) ?_
    refine LW_nil ?_
    refine sq_n ?_
    refine CW_ret ?_
    refine sq_r ?_
    replace hm := Option.some.inj hm; subst hm
    refine retQ_1 (v := (.bool false)) rfl rfl ?_
    exact ⟨rfl, hST.ex⟩
  · replace hm := if_f hb1 hm
    refine CW_skip ?_
    refine sq_n ?_
    refine CW_seq ?_
    refine CW_seq ?_
    refine CW_region ?_
    refine LW_v (.inl rfl) rfl (by decide) (R_move (v := v_a0) rfl) ?_
    refine LW_v (.inl rfl) rfl (by decide) (R_len Tryz.underlying22 rfl h_a0) ?_
    refine LW_v (.inl rfl) rfl (by decide) (R_move (v := (.int .i64 0)) rfl) ?_
    refine LW_nil ?_
    refine sq_n ?_
    refine CW_range (fun i E W => ∃  (L109 : List (Nat × Obj)), (E 13 = .int .i64 (i : Nat) ∧ E 12 = .int .i64 (a0.length : Nat)) ∧ ST NoF w W (hp w) L109 ∧ E 0 = v_a0 ∧ E 1 = v_a1 ∧ m_ref05_Same_L1 a1 (a0.drop i) i = some r) a0.length h_a0.len ⟨_, ⟨rfl, rfl⟩, (hST.sublist (List.Sublist.refl _)), rfl, rfl, hm⟩ (by decide) (by decide) (by decide) (fun _ _ _ h => by obtain ⟨_, eIN, _⟩ := h; exact eIN) ?_ ?_
    · rintro i66 E W hi72 ⟨L109, ⟨eI, eN⟩, hST, e111, e112, hm110⟩
      obtain ⟨x67, xs68, hx70, hx69, hx71⟩ := drop_cons hi72
      rw [hx70] at hm110
      rw [m_ref05_Same_L1] at hm110
      refine CW_block ?_
      refine CW_seq ?_
      refine CW_region ?_
      refine LW_v (.inl rfl) rfl (by decide) (R_move (v := (.int .i64 ((i66 : Int)))) eI) ?_
      refine LW_v (.inl rfl) rfl (by decide) (R_assign (v := (.int .i64 ((i66 : Int)))) rfl) ?_
      refine LW_nil ?_
      refine sq_n ?_
      refine CW_seq ?_
      refine PW_start (Has (hp w) []) Tryz_mixed ?_
      replace hST := hST.drew
      have hSS : (Has (hp w) [] _) := ((show ST NoF w _ _ L109 from hST).has.sub (Sub.refl _) (fun p hq => (absurd hq List.not_mem_nil)))
      refine PW_v 0 rfl (by kernel_rfl) (by kernel_rfl) (by kernel_rfl) (.inl rfl) rfl (by decide) hSS (fun W hS => R_move (v := v_a0) e111) ?_
      refine PW_v 1 rfl (by kernel_rfl) (by kernel_rfl) (by kernel_rfl) (.inl rfl) rfl (by decide) hSS (fun W hS => R_move (v := (.int .i64 ((i66 : Int)))) rfl) ?_
      refine PW_q 2 rfl (by kernel_rfl) (by kernel_rfl) (by kernel_rfl) (.inl rfl) rfl (by decide) hSS (R_indexP (enc := encCred) (i := (i66 : Int)) (x0 := x67) Tryz.underlying22 Tryz.sizeOf83 rfl rfl h_a0 (Int.natCast_nonneg _) hx69) (fun p121 hp122 => ?_)
      refine PW_v 3 rfl (by kernel_rfl) (by kernel_rfl) (by kernel_rfl) (.inl rfl) rfl (by decide) hSS (fun W hS => R_load rfl (load_atA hS hp122 Tryz.isAgg83 Tryz.sizeOf83)) ?_
      refine PW_v 4 rfl (by kernel_rfl) (by kernel_rfl) (by kernel_rfl) (.inl rfl) rfl (by decide) hSS (fun W hS => R_move (v := v_a1) e112) ?_
      refine PW_v 5 rfl (by kernel_rfl) (by kernel_rfl) (by kernel_rfl) (.inl rfl) rfl (by decide) hSS (fun W hS => R_move (v := (.int .i64 ((i66 : Int)))) rfl) ?_
      obtain ⟨x127, hx128, hm110⟩ := bind_some hm110
      refine PW_q 6 rfl (by kernel_rfl) (by kernel_rfl) (by kernel_rfl) (.inl rfl) rfl (by decide) hSS (R_indexP (enc := encCred) (i := (i66 : Int)) (x0 := x127) Tryz.underlying22 Tryz.sizeOf83 rfl rfl h_a1 (idx_nonneg hx128) (idx_get hx128)) (fun p124 hp125 => ?_)
      refine PW_v 7 rfl (by kernel_rfl) (by kernel_rfl) (by kernel_rfl) (.inl rfl) rfl (by decide) hSS (fun W hS => R_load rfl (load_atA hS hp125 Tryz.isAgg83 Tryz.sizeOf83)) ?_
      refine PW_v 8 rfl (by kernel_rfl) (by kernel_rfl) (by kernel_rfl) (.inl rfl) rfl (by decide) hSS (fun W hS => R_neq (a := (encCred x67).toArray) (b := (encCred x127).toArray) rfl rfl (guard_agg Tryz.eqGuardType83) (bin_neq (eqInCred _ x67 x127))) ?_
      refine PW_done (by kernel_rfl) ?_
      refine sq_n ?_
      refine CW_if (b := (!(beqCred x67 x127))) rfl (fun hb129 => ?_) (fun hb129 => ?_)
      · replace hm110 := if_t hb129 hm110
        refine CW_seq ?_
        refine CW_region ?_
        refine LW_v (.inl rfl) rfl (by decide) (R_assign (v := (.bool false)) rfl) ?_
        refine LW_nil ?_
        refine sq_n ?_
        refine CW_ret ?_
        refine bq_r (sq_r (bq_r (sq_r ?_)))
        replace hm110 := Option.some.inj hm110; subst hm110
        refine retQ_1 (v := (.bool false)) rfl rfl ?_
        exact ⟨rfl, hST.ex⟩
      · replace hm110 := if_f hb129 hm110
        refine CW_skip ?_
        refine bq_n ?_
        refine sq_n ?_
        exact ⟨eI, _, ⟨rfl, eN⟩, (hST.sublist (List.Sublist.refl _)), e111, e112, (by rw [hx71]; exact hm110)⟩
    · rintro E W ⟨L109, ⟨eI, eN⟩, hST, e111, e112, hm110⟩
      rw [List.drop_length] at hm110
      rw [m_ref05_Same_L1] at hm110
      refine sq_n ?_
      refine CW_seq ?_
      refine CW_region ?_
      refine LW_v (.inl rfl) rfl (by decide) (R_assign (v := (.bool true)) rfl) ?_
      refine LW_nil ?_
      refine sq_n ?_
      refine CW_ret ?_
      replace hm110 := Option.some.inj hm110; subst hm110
      refine retQ_1 (v := (.bool true)) rfl rfl ?_
      exact ⟨rfl, hST.ex⟩

theorem w_graph_Graph_Want_nil (v_a1 : Value) (a1 : List Role) (r : Int) (w : World) (h_a1 : Sl (Pl encRole) 2 (hp w) v_a1 a1) (hm : m_graph_Graph_Want_nil a1 = some r) :
    Gives Tryz.prog 26 [(.pointer none), v_a1] w (.int .i64 r) := by
  have hST := ST.start w
  unfold m_graph_Graph_Want_nil at hm
  refine calls_of_CW (n := 75) Tryz.func26 rfl rfl (Nat.le_of_ble_eq_true rfl) ?_
  refine CW_seq ?_
  refine CW_region ?_
  refine LW_v (.inl rfl) rfl (by decide) (R_assign (v := (.int .i64 0)) rfl) ?_
  refine LW_nil ?_
  refine sq_n ?_
  refine CW_seq ?_
  refine CW_seq ?_
  refine CW_region ?_
  refine LW_v (.inl rfl) rfl (by decide) (R_move (v := (.pointer none)) rfl) ?_
  refine LW_v (.inl rfl) rfl (by decide) (R_ptrEqNil Tryz.underlying31 rfl rfl) ?_
  refine LW_nil ?_
  refine sq_n ?_
  refine CW_if_true rfl ?_
  refine CW_seq ?_
  refine CW_region ?_
  refine LW_v (.inl rfl) rfl (by decide) (R_assign (v := (.int .i64 0)) rfl) ?_
  refine LW_nil ?_
  refine sq_n ?_
  refine CW_ret ?_
  refine sq_r ?_
  replace hm := Option.some.inj hm; subst hm
  refine retQ_1 (v := (.int .i64 0)) rfl rfl ?_
  exact ⟨rfl, hST.ex⟩

theorem w_graph_Graph_Targets_nil  (r : List Role) (w : World)  (hm : m_graph_Graph_Targets_nil  = some r) :
    GivesRow Tryz.prog 21 [(.pointer none)] w 47 encRole 2 r := by
  have hST := ST.start w
  unfold m_graph_Graph_Targets_nil at hm
  refine calls_of_CW (n := 22) Tryz.func21 rfl rfl (Nat.le_of_ble_eq_true rfl) ?_
  refine CW_seq ?_
  refine CW_region ?_
  refine LW_v (.inl rfl) rfl (by decide) (R_assign (v := (.slice none 0 0)) rfl) ?_
  refine LW_nil ?_
  refine sq_n ?_
  refine CW_seq ?_
  refine CW_seq ?_
  refine CW_region ?_
  refine LW_v (.inl rfl) rfl (by decide) (R_move (v := (.pointer none)) rfl) ?_
  refine LW_v (.inl rfl) rfl (by decide) (R_ptrEqNil Tryz.underlying31 rfl rfl) ?_
  refine LW_nil ?_
  refine sq_n ?_
  refine CW_if_true rfl ?_
  refine CW_seq ?_
  refine CW_region ?_
  refine LW_v (.inl rfl) rfl (by decide) (R_assign (v := (.slice none 0 0)) rfl) ?_
  refine LW_nil ?_
  refine sq_n ?_
  refine CW_ret ?_
  refine sq_r ?_
  replace hm := Option.some.inj hm; subst hm
  refine retQ_1 (v := (.slice none 0 0)) rfl rfl ?_
  exact ⟨_, [], rfl, hST.backRow (fun p hq => by cases hq) (by simp), Row.nil _ _ _⟩

theorem w_graph_Graph_Words_nil  (r : List ByteArray) (w : World)  (hm : m_graph_Graph_Words_nil  = some r) :
    GivesRow Tryz.prog 23 [(.pointer none)] w 9 encS 1 r := by
  have hST := ST.start w
  unfold m_graph_Graph_Words_nil at hm
  refine calls_of_CW (n := 22) Tryz.func23 rfl rfl (Nat.le_of_ble_eq_true rfl) ?_
  refine CW_seq ?_
  refine CW_region ?_
  refine LW_v (.inl rfl) rfl (by decide) (R_assign (v := (.slice none 0 0)) rfl) ?_
  refine LW_nil ?_
  refine sq_n ?_
  refine CW_seq ?_
  refine CW_seq ?_
  refine CW_region ?_
  refine LW_v (.inl rfl) rfl (by decide) (R_move (v := (.pointer none)) rfl) ?_
  refine LW_v (.inl rfl) rfl (by decide) (R_ptrEqNil Tryz.underlying31 rfl rfl) ?_
  refine LW_nil ?_
  refine sq_n ?_
  refine CW_if_true rfl ?_
  refine CW_seq ?_
  refine CW_region ?_
  refine LW_v (.inl rfl) rfl (by decide) (R_assign (v := (.slice none 0 0)) rfl) ?_
  refine LW_nil ?_
  refine sq_n ?_
  refine CW_ret ?_
  refine sq_r ?_
  replace hm := Option.some.inj hm; subst hm
  refine retQ_1 (v := (.slice none 0 0)) rfl rfl ?_
  exact ⟨_, [], rfl, hST.backRow (fun p hq => by cases hq) (by simp), Row.nil _ _ _⟩

theorem w_graph_Graph_Relevant_nil  (r : List Cred) (w : World)  (hm : m_graph_Graph_Relevant_nil  = some r) :
    GivesRow Tryz.prog 25 [(.pointer none)] w 83 encCred 9 r := by
  have hST := ST.start w
  unfold m_graph_Graph_Relevant_nil at hm
  refine calls_of_CW (n := 12) Tryz.func25 rfl rfl (Nat.le_of_ble_eq_true rfl) ?_
  refine CW_seq ?_
  refine CW_region ?_
  refine LW_e (.inl rfl) rfl (by decide) (E_box (v := (.pointer none)) hST rfl (fun W2 b1 hST => ?_))
  refine LW_v (.inl rfl) rfl (by decide) (R_assign (v := (.slice none 0 0)) rfl) ?_
  refine LW_nil ?_
  refine sq_n ?_
  refine CW_seq ?_
  refine CW_seq ?_
  refine CW_region ?_
  refine LW_v (.inl rfl) rfl (by decide) (R_load (v := (.pointer none)) rfl (load_box1 hST.has (.head _) rfl Tryz.isAgg31)) ?_
  refine LW_v (.inl rfl) rfl (by decide) (R_ptrEqNil Tryz.underlying31 rfl rfl) ?_
  refine LW_nil ?_
  refine sq_n ?_
  refine CW_if_true rfl ?_
  refine CW_seq ?_
  refine CW_region ?_
  refine LW_v (.inl rfl) rfl (by decide) (R_assign (v := (.slice none 0 0)) rfl) ?_
  refine LW_nil ?_
  refine sq_n ?_
  replace hST : ST NoF w _ _ [] := hST.sublist (List.Sublist.cons _ (List.Sublist.refl _))
  refine CW_ret ?_
  refine sq_r ?_
  replace hm := Option.some.inj hm; subst hm
  refine retQ_1 (v := (.slice none 0 0)) rfl rfl ?_
  exact ⟨_, [], rfl, hST.backRow (fun p hq => by cases hq) (by simp), Row.nil _ _ _⟩

theorem w_law22_GraphTells (v_a0 : Value) (a0 : List Cred) (v_a1 : Value) (a1 : List Role) (v_a2 : Value) (a2 : List Role) (r : Bool) (w : World) (h_a0 : Sl (Pl encCred) 9 (hp w) v_a0 a0) (h_a1 : Sl (Pl encRole) 2 (hp w) v_a1 a1) (h_a2 : Sl (Pl encRole) 2 (hp w) v_a2 a2) (hm : m_law22_GraphTells a0 a1 a2 = some r) :
    Gives Tryz.prog 3 [v_a0, v_a1, v_a2] w (.bool r) := by
  have hST := ST.start w
  unfold m_law22_GraphTells at hm
  refine calls_of_CW (n := 109) Tryz.func3 rfl rfl (Nat.le_of_ble_eq_true rfl) ?_
  refine CW_seq ?_
  refine CW_region ?_
  refine LW_v (.inl rfl) rfl (by decide) (R_assign (v := (.bool false)) rfl) ?_
  refine LW_nil ?_
  refine sq_n ?_
  refine CW_seq ?_
  refine CW_seq ?_
  refine CW_region ?_
  obtain ⟨r1, hr2, hm⟩ := bind_some hm
  replace hST : ST NoF w _ _ [] := hST
  have hsz := hST.size
  refine LW_e (.inl rfl) rfl (by decide) (E_gives (args := []) hST rfl Tryz.call15 (by exact args0 ) (w_law22_first  _ _  hr2) (fun W3 hST => ?_))
  refine LW_v (.inl rfl) rfl (by decide) (R_not (b := r1) rfl) ?_
  refine LW_nil ?_
  refine sq_n ?_
  refine CW_if (b := (!r1)) rfl (fun hb4 => ?_) (fun hb4 => ?_)
  · replace hm := if_t hb4 hm
    refine CW_seq ?_
    refine CW_region ?_
    refine LW_v (.inl rfl) rfl (by decide) (R_assign (v := (.bool false)) rfl) ?_
    refine LW_nil ?_
    refine sq_n ?_
    refine CW_ret ?_
    refine sq_r ?_
    replace hm := Option.some.inj hm; subst hm
    refine retQ_1 (v := (.bool false)) rfl rfl ?_
    exact ⟨rfl, hST.ex⟩
  · replace hm := if_f hb4 hm
    refine CW_skip ?_
    refine sq_n ?_
    refine CW_seq ?_
    refine CW_seq ?_
    obtain ⟨s861, hm862, hm863⟩ := bind_some hm
    refine CW_cut (fun E W => ∃ (x49 : Bool) (L50 : List (Nat × Obj)), ST NoF w W (hp w) L50 ∧ E 0 = v_a0 ∧ E 1 = v_a1 ∧ E 2 = v_a2 ∧ E 23 = (.bool x49) ∧ (if x49 then some true else (((m_ref22_Of a0 a1)).bind fun r57 => (((appB 32 ([]) a1)).bind fun l86 => (((appB 32 l86 a2)).bind fun l92 => (((m_ref22_Of a0 l92)).bind fun r98 => (((m_graph_New a0 a1)).bind fun r125 => (((((m_graph_Graph_Targets r125.1 r125.2.1 r125.2.2.1 r125.2.2.2)).bind fun r810 => (((m_ref04_Same r810 r57.1)).bind fun r818 => (if (!r818) then some (true, r125.2.1, r125.2.2.1, r125.2.2.2) else (((m_graph_Graph_Words r125.1 r125.2.1 r125.2.2.1 r125.2.2.2)).bind fun r822 => (((m_ref03_Same r822 r57.2.1)).bind fun r830 => (if (!r830) then some (true, r125.2.1, r125.2.2.1, r125.2.2.2) else (((m_graph_Graph_Relevant r125.1 r125.2.1 r125.2.2.1 r125.2.2.2)).bind fun r834 => (((m_ref05_Same r834 r57.2.2)).bind fun r842 => (if (!r842) then some (true, r125.2.1, r125.2.2.1, r125.2.2.2) else (((m_graph_Graph_Want_w r125.1 r125.2.1 r125.2.2.1 r125.2.2.2 a2)).bind fun r846 => some (((r846.1 != ((IntKind.i64.wrap (((r98.2.2.length : Int)) - ((r57.2.2.length : Int))))))), r846.2.1, r846.2.2.1, r846.2.2.2))))))))))) : Option ((Bool × (List (Role × Bool)) × (List (ByteArray × Bool)) × (List (Cred × Bool))))).bind fun (x477, l478, l481, l484) => (if x477 then some false else (((((m_graph_Graph_Targets r125.1 l478 l481 l484)).bind fun r693 => (((m_ref04_Same r693 r98.1)).bind fun r701 => (if r701 then (((m_graph_Graph_Words r125.1 l478 l481 l484)).bind fun r705 => (((m_ref03_Same r705 r98.2.1)).bind fun r713 => (if r713 then (((m_graph_Graph_Relevant r125.1 l478 l481 l484)).bind fun r717 => (((m_ref05_Same r717 r98.2.2)).bind fun r725 => (if r725 then (((m_graph_Graph_Want_nil a1)).bind fun r729 => (m_graph_Graph_Targets_nil.bind fun r732 => (m_graph_Graph_Words_nil.bind fun r740 => (m_graph_Graph_Relevant_nil.bind fun r748 => some ((((IntKind.i64.wrap (((IntKind.i64.wrap (((IntKind.i64.wrap (r729 + ((r732.length : Int))))) + ((r740.length : Int))))) + ((r748.length : Int))))) == 0)))))) else some false))) else some false))) else some false))) : Option Bool).bind fun x622 => some x622))))))))) = some r) ?_ ?_
    · refine CW_region ?_
      refine LW_v (.inl rfl) rfl (by decide) (R_move (v := v_a0) rfl) ?_
      obtain ⟨r864, hr865, hm862⟩ := bind_some hm862
      replace hST : ST NoF w _ _ [] := hST
      have hsz := hST.size
      refine LW_e (.inl rfl) rfl (by decide) (E_gives (args := [v_a0]) hST rfl Tryz.call16 (by exact args1 rfl) (w_law05_Great v_a0 a0 _ _ (h_a0.mono (Pl.mono _) hST.sub_hp) hr865) (fun W866 hST => ?_))
      refine LW_v (.inl rfl) rfl (by decide) (R_int (k := .i64) (a := r864) (b := 1500) (v := (.bool ((decide (r864 > 1500))))) rfl rfl rfl) ?_
      refine LW_v (.inl rfl) rfl (by decide) (R_move (v := (.bool ((decide (r864 > 1500))))) rfl) ?_
      rcases bool_cases ((decide (r864 > 1500))) with hb867 | hb867
      · replace hm862 := if_t hb867 hm862
        refine LW_no rfl (by decide) rfl rfl (by decide) (congrArg Value.bool hb867) ?_
        refine LW_no rfl (by decide) rfl rfl (by decide) (congrArg Value.bool hb867) ?_
        refine LW_v (.inl rfl) rfl (by decide) (R_pickT (v := (.bool true)) (congrArg Value.bool hb867) rfl) ?_
        refine LW_v (.inl rfl) rfl (by decide) (R_move (v := (.bool true)) rfl) ?_
        refine LW_no rfl (by decide) rfl rfl (by decide) rfl ?_
        refine LW_no rfl (by decide) rfl rfl (by decide) rfl ?_
        refine LW_v (.inl rfl) rfl (by decide) (R_pickT (v := (.bool true)) rfl rfl) ?_
        refine LW_nil ?_
        refine sq_n ?_
        replace hm862 := Option.some.inj hm862; subst hm862
        exact ⟨true, _, (hST.sublist (List.Sublist.refl _)), rfl, rfl, rfl, rfl, hm863⟩
      · replace hm862 := if_f hb867 hm862
        refine LW_v (.inr ⟨3, false, 16, rfl, rfl, by decide, (congrArg Value.bool hb867)⟩) rfl (by decide) (R_move (v := v_a1) rfl) ?_
        obtain ⟨r868, hr869, hm862⟩ := bind_some hm862
        replace hST : ST NoF w _ _ [] := hST
        have hsz := hST.size
        refine LW_e (.inr ⟨3, false, 16, rfl, rfl, by decide, (congrArg Value.bool hb867)⟩) rfl (by decide) (E_gives (args := [v_a1]) hST rfl Tryz.call17 (by exact args1 rfl) (w_law22_great v_a1 a1 _ _ (h_a1.mono (Pl.mono _) hST.sub_hp) hr869) (fun W870 hST => ?_))
        refine LW_v (.inl rfl) rfl (by decide) (R_pickF (v := (.bool r868)) (congrArg Value.bool hb867) rfl) ?_
        refine LW_v (.inl rfl) rfl (by decide) (R_move (v := (.bool r868)) rfl) ?_
        rcases bool_cases r868 with hb871 | hb871
        · replace hm862 := if_t hb871 hm862
          refine LW_no rfl (by decide) rfl rfl (by decide) (congrArg Value.bool hb871) ?_
          refine LW_no rfl (by decide) rfl rfl (by decide) (congrArg Value.bool hb871) ?_
          refine LW_v (.inl rfl) rfl (by decide) (R_pickT (v := (.bool true)) (congrArg Value.bool hb871) rfl) ?_
          refine LW_nil ?_
          refine sq_n ?_
          replace hm862 := Option.some.inj hm862; subst hm862
          exact ⟨true, _, (hST.sublist (List.Sublist.refl _)), rfl, rfl, rfl, rfl, hm863⟩
        · replace hm862 := if_f hb871 hm862
          refine LW_v (.inr ⟨7, false, 20, rfl, rfl, by decide, (congrArg Value.bool hb871)⟩) rfl (by decide) (R_move (v := v_a2) rfl) ?_
          obtain ⟨r872, hr873, hm862⟩ := bind_some hm862
          replace hST : ST NoF w _ _ [] := hST
          have hsz := hST.size
          refine LW_e (.inr ⟨7, false, 20, rfl, rfl, by decide, (congrArg Value.bool hb871)⟩) rfl (by decide) (E_gives (args := [v_a2]) hST rfl Tryz.call17 (by exact args1 rfl) (w_law22_great v_a2 a2 _ _ (h_a2.mono (Pl.mono _) hST.sub_hp) hr873) (fun W874 hST => ?_))
          refine LW_v (.inl rfl) rfl (by decide) (R_pickF (v := (.bool r872)) (congrArg Value.bool hb871) rfl) ?_
          refine LW_nil ?_
          refine sq_n ?_
          replace hm862 := Option.some.inj hm862; subst hm862
          exact ⟨r872, _, (hST.sublist (List.Sublist.refl _)), rfl, rfl, rfl, rfl, hm863⟩
    · rintro E W ⟨x49, L50, hST, e52, e53, e54, e55, hm51⟩
      refine CW_if (b := x49) e55 (fun hb56 => ?_) (fun hb56 => ?_)
      · replace hm51 := if_t hb56 hm51
        refine CW_seq ?_
        refine CW_region ?_
        refine LW_v (.inl rfl) rfl (by decide) (R_assign (v := (.bool true)) rfl) ?_
        refine LW_nil ?_
        refine sq_n ?_
        refine CW_ret ?_
        refine sq_r ?_
        replace hm51 := Option.some.inj hm51; subst hm51
        refine retQ_1 (v := (.bool true)) rfl rfl ?_
        exact ⟨rfl, hST.ex⟩
      · replace hm51 := if_f hb56 hm51
        refine CW_skip ?_
        refine sq_n ?_
        refine CW_seq ?_
        refine CW_region ?_
        refine LW_v (.inl rfl) rfl (by decide) (R_move (v := v_a0) e52) ?_
        refine LW_v (.inl rfl) rfl (by decide) (R_move (v := v_a1) e53) ?_
        obtain ⟨r57, hr58, hm51⟩ := bind_some hm51
        replace hST : ST NoF w _ _ L50 := hST
        have hsz := hST.size
        refine LW_e (.inl rfl) rfl (by decide) (E_callM (args := [v_a0, v_a1]) (caps := #[]) [] L50 hST (List.Perm.refl _) rfl Tryz.call18 (by exact args2 rfl rfl) (fun _ _ _ _ => w_ref22_Of v_a0 a0 v_a1 a1 _ _ (h_a0.mono (Pl.mono _) hST.sub_hp) (h_a1.mono (Pl.mono _) hST.sub_hp) hr58) (fun W59 v62 μ60 L64 hST hle61 hlift hK63 => ?_))
        obtain ⟨y65, S66, y68, S69, y71, S72, hv74, rfl, hy67, hy70, hy73⟩ := hK63
        replace hv74 := hv74.symm; subst hv74
        simp only [List.append_assoc, List.cons_append, List.nil_append] at hST
        refine LW_e (.inl rfl) rfl (by decide) (E_alloc hST Tryz.zeroValue29 (fun W76 b75 hST => ?_))
        obtain ⟨A77, c78, rfl⟩ := hy67.form
        obtain ⟨A79, c80, rfl⟩ := hy70.form
        obtain ⟨A81, c82, rfl⟩ := hy73.form
        refine LW_e0 (.inl rfl) rfl (E_store [] (.agg #[(.slice A77 r57.1.length c78), (.slice A79 r57.2.1.length c80), (.slice A81 r57.2.2.length c82)]) (#[(.slice A77 r57.1.length c78), (.slice A79 r57.2.1.length c80), (.slice A81 r57.2.2.length c82)]) hST rfl rfl Tryz.sizeOf29 (by simp [Value.cells, Value.oneCell']) (Nat.le_of_ble_eq_true rfl) rfl (fun W83 hST => ?_))
        refine LW_nil ?_
        refine sq_n ?_
        refine CW_seq ?_
        refine CW_region ?_
        refine LW_v (.inl rfl) rfl (by decide) (R_move (v := v_a0) e52) ?_
        refine LW_e (.inl rfl) rfl (by decide) (E_buildSlice (qs := #[]) (cs := #[]) hST parts0 (run_lit [] Tryz.underlying23 Tryz.sizeOf47 Tryz.zeroValue47 (by decide) rfl (by simp) rfl rfl) (fun W85 b84 hST => ?_))
        refine LW_v (.inl rfl) rfl (by decide) (R_move (v := v_a1) e53) ?_
        obtain ⟨l86, hb87, hm51⟩ := bind_some hm51
        replace hST := hST.perm (List.Perm.append_left [] (List.perm_middle (l₁ := [_])).symm)
        refine LW_e (.inl rfl) rfl (by decide) (E_append (enc := encRole) (v := (.slice (some ⟨b84, 0, none⟩) 0 0)) (vs := v_a1) (R := [(b84, Obj.cells (#[] : Array Value) 47 (0, 0))]) [_] hST lenRole (by decide) oneRole Tryz.underlying23 info47.1 info47.2.1 rfl info47.2.2.1 info47.2.2.2 rfl rfl (Row.lit (l := []) (enc := encRole) rfl (by decide) rfl rfl) (h_a1.mono (Pl.mono _) (hle61.trans hST.sub_hp)) hb87 (fun W88 v91 R89 hST hR90 => ?_))
        refine LW_v (.inl rfl) rfl (by decide) (R_move (v := v_a2) e54) ?_
        obtain ⟨l92, hb93, hm51⟩ := bind_some hm51
        refine LW_e (.inl rfl) rfl (by decide) (E_append (enc := encRole) (v := v91) (vs := v_a2) (R := R89) [_] hST lenRole (by decide) oneRole Tryz.underlying23 info47.1 info47.2.1 rfl info47.2.2.1 info47.2.2.2 rfl rfl hR90 (h_a2.mono (Pl.mono _) (hle61.trans hST.sub_hp)) hb93 (fun W94 v97 R95 hST hR96 => ?_))
        obtain ⟨r98, hr99, hm51⟩ := bind_some hm51
        replace hST : ST NoF w _ _ ((b75, Obj.cells (#[(.slice A77 r57.1.length c78), (.slice A79 r57.2.1.length c80), (.slice A81 r57.2.2.length c82)] : Array Value) 29 (0, 0)) :: (R95 ++ (S66 ++ (S69 ++ (S72 ++ L50))))) := hST
        have hsz := hST.size
        refine LW_e (.inl rfl) rfl (by decide) (E_callM (args := [v_a0, v97]) (caps := #[]) [] (((b75, Obj.cells (#[(.slice A77 r57.1.length c78), (.slice A79 r57.2.1.length c80), (.slice A81 r57.2.2.length c82)] : Array Value) 29 (0, 0)) :: (R95 ++ (S66 ++ (S69 ++ (S72 ++ L50)))))) hST (List.Perm.refl _) rfl Tryz.call18 (by exact args2 rfl rfl) (fun _ _ _ _ => w_ref22_Of v_a0 a0 v97 l92 _ _ (h_a0.mono (Pl.mono _) (hle61.trans hST.sub_hp)) (hR96.sl lenRole (fun b o hq => hST.at_ (.tail _ (List.mem_append_left _ hq)))) hr99) (fun W100 v103 μ101 L105 hST hle102 hlift hK104 => ?_))
        obtain ⟨y106, S107, y109, S110, y112, S113, hv115, rfl, hy108, hy111, hy114⟩ := hK104
        replace hv115 := hv115.symm; subst hv115
        simp only [List.append_assoc, List.cons_append, List.nil_append] at hST
        replace hST : ST NoF w _ _ ((b75, Obj.cells (#[(.slice A77 r57.1.length c78), (.slice A79 r57.2.1.length c80), (.slice A81 r57.2.2.length c82)] : Array Value) 29 (0, 0)) :: (S107 ++ (S110 ++ (S113 ++ (R95 ++ (S66 ++ (S69 ++ (S72 ++ L50)))))))) := hST.perm (permD [S107, S110, S113, [(b75, Obj.cells (#[(.slice A77 r57.1.length c78), (.slice A79 r57.2.1.length c80), (.slice A81 r57.2.2.length c82)] : Array Value) 29 (0, 0))]] [0, 1, 2, 3] [3, 0, 1, 2] ((R95 ++ (S66 ++ (S69 ++ (S72 ++ L50))))) (by decide) rfl rfl)
        refine LW_e (.inl rfl) rfl (by decide) (E_alloc hST Tryz.zeroValue29 (fun W117 b116 hST => ?_))
        obtain ⟨A118, c119, rfl⟩ := hy108.form
        obtain ⟨A120, c121, rfl⟩ := hy111.form
        obtain ⟨A122, c123, rfl⟩ := hy114.form
        refine LW_e0 (.inl rfl) rfl (E_store [] (.agg #[(.slice A118 r98.1.length c119), (.slice A120 r98.2.1.length c121), (.slice A122 r98.2.2.length c123)]) (#[(.slice A118 r98.1.length c119), (.slice A120 r98.2.1.length c121), (.slice A122 r98.2.2.length c123)]) hST rfl rfl Tryz.sizeOf29 (by simp [Value.cells, Value.oneCell']) (Nat.le_of_ble_eq_true rfl) rfl (fun W124 hST => ?_))
        refine LW_nil ?_
        refine sq_n ?_
        replace hST : ST NoF w _ _ ((b116, Obj.cells (#[(.slice A118 r98.1.length c119), (.slice A120 r98.2.1.length c121), (.slice A122 r98.2.2.length c123)] : Array Value) 29 (0, 0)) :: ((b75, Obj.cells (#[(.slice A77 r57.1.length c78), (.slice A79 r57.2.1.length c80), (.slice A81 r57.2.2.length c82)] : Array Value) 29 (0, 0)) :: (S107 ++ (S110 ++ (S113 ++ (R95 ++ (S66 ++ (S69 ++ (S72 ++ L50))))))))) := hST
        replace hST : ST NoF w _ _ ((b116, Obj.cells (#[(.slice A118 r98.1.length c119), (.slice A120 r98.2.1.length c121), (.slice A122 r98.2.2.length c123)] : Array Value) 29 (0, 0)) :: ((b75, Obj.cells (#[(.slice A77 r57.1.length c78), (.slice A79 r57.2.1.length c80), (.slice A81 r57.2.2.length c82)] : Array Value) 29 (0, 0)) :: (S107 ++ (S110 ++ (S113 ++ (S66 ++ (S69 ++ (S72 ++ L50)))))))) := hST.sublist (List.Sublist.cons_cons _ (List.Sublist.cons_cons _ (List.Sublist.append (List.Sublist.refl _) (List.Sublist.append (List.Sublist.refl _) (List.Sublist.append (List.Sublist.refl _) ((List.Sublist.refl _).trans (List.sublist_append_right _ _)))))))
        refine CW_seq ?_
        refine CW_region ?_
        refine LW_v (.inl rfl) rfl (by decide) (R_move (v := v_a0) e52) ?_
        refine LW_v (.inl rfl) rfl (by decide) (R_move (v := v_a1) e53) ?_
        obtain ⟨r125, hr126, hm51⟩ := bind_some hm51
        replace hST : ST NoF w _ _ ((b116, Obj.cells (#[(.slice A118 r98.1.length c119), (.slice A120 r98.2.1.length c121), (.slice A122 r98.2.2.length c123)] : Array Value) 29 (0, 0)) :: ((b75, Obj.cells (#[(.slice A77 r57.1.length c78), (.slice A79 r57.2.1.length c80), (.slice A81 r57.2.2.length c82)] : Array Value) 29 (0, 0)) :: (S107 ++ (S110 ++ (S113 ++ (S66 ++ (S69 ++ (S72 ++ L50)))))))) := hST
        have hsz := hST.size
        refine LW_e (.inl rfl) rfl (by decide) (E_callM (args := [v_a0, v_a1]) (caps := #[]) [] (((b116, Obj.cells (#[(.slice A118 r98.1.length c119), (.slice A120 r98.2.1.length c121), (.slice A122 r98.2.2.length c123)] : Array Value) 29 (0, 0)) :: ((b75, Obj.cells (#[(.slice A77 r57.1.length c78), (.slice A79 r57.2.1.length c80), (.slice A81 r57.2.2.length c82)] : Array Value) 29 (0, 0)) :: (S107 ++ (S110 ++ (S113 ++ (S66 ++ (S69 ++ (S72 ++ L50))))))))) hST (List.Perm.refl _) rfl Tryz.call19 (by exact args2 rfl rfl) (fun _ _ _ _ => w_graph_New v_a0 a0 v_a1 a1 _ _ (h_a0.mono (Pl.mono _) ((hle61.trans hle102).trans hST.sub_hp)) (h_a1.mono (Pl.mono _) ((hle61.trans hle102).trans hST.sub_hp)) hr126) (fun W127 v130 μ128 L132 hST hle129 hlift hK131 => ?_))
        obtain ⟨b133, y134, y138, S139, y141, S142, y144, S145, hv147, rfl, hy135, hf136, hy140, hy143, hy146⟩ := hK131
        replace hv147 := hv147.symm; subst hv147
        have hs137 := hy135.lift hf136 hlift
        replace hf136 := hf136.mono hsz
        simp only [List.append_assoc, List.cons_append, List.nil_append] at hST
        replace hST : ST NoF w _ _ ((b133, Obj.cells (#[y134, y138, y141, y144] : Array Value) 122 (0, 0)) :: ((b116, Obj.cells (#[(.slice A118 r98.1.length c119), (.slice A120 r98.2.1.length c121), (.slice A122 r98.2.2.length c123)] : Array Value) 29 (0, 0)) :: ((b75, Obj.cells (#[(.slice A77 r57.1.length c78), (.slice A79 r57.2.1.length c80), (.slice A81 r57.2.2.length c82)] : Array Value) 29 (0, 0)) :: (S139 ++ (S142 ++ (S145 ++ (S107 ++ (S110 ++ (S113 ++ (S66 ++ (S69 ++ (S72 ++ L50)))))))))))) := hST.perm (permD [[(b133, Obj.cells (#[y134, y138, y141, y144] : Array Value) 122 (0, 0))], S139, S142, S145, [(b116, Obj.cells (#[(.slice A118 r98.1.length c119), (.slice A120 r98.2.1.length c121), (.slice A122 r98.2.2.length c123)] : Array Value) 29 (0, 0))], [(b75, Obj.cells (#[(.slice A77 r57.1.length c78), (.slice A79 r57.2.1.length c80), (.slice A81 r57.2.2.length c82)] : Array Value) 29 (0, 0))]] [0, 1, 2, 3, 4, 5] [0, 4, 5, 1, 2, 3] ((S107 ++ (S110 ++ (S113 ++ (S66 ++ (S69 ++ (S72 ++ L50))))))) (by decide) rfl rfl)
        refine LW_v (.inl rfl) rfl (by decide) (R_assign (v := (.pointer (some ⟨b133, 0, none⟩))) rfl) ?_
        refine LW_nil ?_
        refine sq_n ?_
        refine CW_seq ?_
        refine CW_seq ?_
        obtain ⟨s756, hm757, hm758⟩ := bind_some hm51
        refine CW_cut (fun E W => ∃ (x477 : Bool) (l478 : List (Role × Bool)) (R480 : List (Nat × Obj)) (l481 : List (ByteArray × Bool)) (R483 : List (Nat × Obj)) (l484 : List (Cred × Bool)) (R486 : List (Nat × Obj)) (μ476 : Mem) (L487 : List (Nat × Obj)), Sub μ128 μ476 ∧ ST NoF w W μ476 ((b133, Obj.cells (#[y134, y138, y141, y144] : Array Value) 122 (0, 0)) :: ((b116, Obj.cells (#[(.slice A118 r98.1.length c119), (.slice A120 r98.2.1.length c121), (.slice A122 r98.2.2.length c123)] : Array Value) 29 (0, 0)) :: (R480 ++ (R483 ++ (R486 ++ (S107 ++ (S110 ++ (S113 ++ L487)))))))) ∧ E 1 = v_a1 ∧ E 8 = (.pointer (some ⟨b116, 0, none⟩)) ∧ E 9 = (.pointer (some ⟨b133, 0, none⟩)) ∧ E 71 = (.bool x477) ∧ MapRow (fun (x : Role) => (.agg (encRole x).toArray)) (fun (x : Bool) => (Value.bool x)) y138 l478 R480 ∧ MapRow Value.string (fun (x : Bool) => (Value.bool x)) y141 l481 R483 ∧ MapRow (fun (x : Cred) => (.agg (encCred x).toArray)) (fun (x : Bool) => (Value.bool x)) y144 l484 R486 ∧ (if x477 then some false else (((((m_graph_Graph_Targets r125.1 l478 l481 l484)).bind fun r693 => (((m_ref04_Same r693 r98.1)).bind fun r701 => (if r701 then (((m_graph_Graph_Words r125.1 l478 l481 l484)).bind fun r705 => (((m_ref03_Same r705 r98.2.1)).bind fun r713 => (if r713 then (((m_graph_Graph_Relevant r125.1 l478 l481 l484)).bind fun r717 => (((m_ref05_Same r717 r98.2.2)).bind fun r725 => (if r725 then (((m_graph_Graph_Want_nil a1)).bind fun r729 => (m_graph_Graph_Targets_nil.bind fun r732 => (m_graph_Graph_Words_nil.bind fun r740 => (m_graph_Graph_Relevant_nil.bind fun r748 => some ((((IntKind.i64.wrap (((IntKind.i64.wrap (((IntKind.i64.wrap (r729 + ((r732.length : Int))))) + ((r740.length : Int))))) + ((r748.length : Int))))) == 0)))))) else some false))) else some false))) else some false))) : Option Bool).bind fun x622 => some x622)) = some r) ?_ ?_
        · refine PW_start (Has μ128 ((b133, Obj.cells (#[y134, y138, y141, y144] : Array Value) 122 (0, 0)) :: ((b116, Obj.cells (#[(.slice A118 r98.1.length c119), (.slice A120 r98.2.1.length c121), (.slice A122 r98.2.2.length c123)] : Array Value) 29 (0, 0)) :: ((b75, Obj.cells (#[(.slice A77 r57.1.length c78), (.slice A79 r57.2.1.length c80), (.slice A81 r57.2.2.length c82)] : Array Value) 29 (0, 0)) :: (S107 ++ (S110 ++ (S113 ++ (S66 ++ (S69 ++ (S72 ++ [])))))))))) Tryz_mixed ?_
          replace hST := hST.drew
          have hSS : (Has μ128 ((b133, Obj.cells (#[y134, y138, y141, y144] : Array Value) 122 (0, 0)) :: ((b116, Obj.cells (#[(.slice A118 r98.1.length c119), (.slice A120 r98.2.1.length c121), (.slice A122 r98.2.2.length c123)] : Array Value) 29 (0, 0)) :: ((b75, Obj.cells (#[(.slice A77 r57.1.length c78), (.slice A79 r57.2.1.length c80), (.slice A81 r57.2.2.length c82)] : Array Value) 29 (0, 0)) :: (S107 ++ (S110 ++ (S113 ++ (S66 ++ (S69 ++ (S72 ++ []))))))))) _) := ((show ST NoF w _ _ ((b133, Obj.cells (#[y134, y138, y141, y144] : Array Value) 122 (0, 0)) :: ((b116, Obj.cells (#[(.slice A118 r98.1.length c119), (.slice A120 r98.2.1.length c121), (.slice A122 r98.2.2.length c123)] : Array Value) 29 (0, 0)) :: ((b75, Obj.cells (#[(.slice A77 r57.1.length c78), (.slice A79 r57.2.1.length c80), (.slice A81 r57.2.2.length c82)] : Array Value) 29 (0, 0)) :: (S139 ++ (S142 ++ (S145 ++ (S107 ++ (S110 ++ (S113 ++ (S66 ++ (S69 ++ (S72 ++ L50)))))))))))) from hST).has.sub (Sub.refl _) (fun p hq => ((List.mem_cons.1 hq).elim (fun hq => by rw [hq]; exact (.head _)) (fun hq => ((List.mem_cons.1 hq).elim (fun hq => by rw [hq]; exact (.tail _ (.head _))) (fun hq => ((List.mem_cons.1 hq).elim (fun hq => by rw [hq]; exact (.tail _ (.tail _ (.head _)))) (fun hq => ((List.mem_append.1 hq).elim (fun hq => (.tail _ (.tail _ (.tail _ (List.mem_append_right _ (List.mem_append_right _ (List.mem_append_right _ (List.mem_append_left _ hq)))))))) (fun hq => ((List.mem_append.1 hq).elim (fun hq => (.tail _ (.tail _ (.tail _ (List.mem_append_right _ (List.mem_append_right _ (List.mem_append_right _ (List.mem_append_right _ (List.mem_append_left _ hq))))))))) (fun hq => ((List.mem_append.1 hq).elim (fun hq => (.tail _ (.tail _ (.tail _ (List.mem_append_right _ (List.mem_append_right _ (List.mem_append_right _ (List.mem_append_right _ (List.mem_append_right _ (List.mem_append_left _ hq)))))))))) (fun hq => ((List.mem_append.1 hq).elim (fun hq => (.tail _ (.tail _ (.tail _ (List.mem_append_right _ (List.mem_append_right _ (List.mem_append_right _ (List.mem_append_right _ (List.mem_append_right _ (List.mem_append_right _ (List.mem_append_left _ hq))))))))))) (fun hq => ((List.mem_append.1 hq).elim (fun hq => (.tail _ (.tail _ (.tail _ (List.mem_append_right _ (List.mem_append_right _ (List.mem_append_right _ (List.mem_append_right _ (List.mem_append_right _ (List.mem_append_right _ (List.mem_append_right _ (List.mem_append_left _ hq)))))))))))) (fun hq => ((List.mem_append.1 hq).elim (fun hq => (.tail _ (.tail _ (.tail _ (List.mem_append_right _ (List.mem_append_right _ (List.mem_append_right _ (List.mem_append_right _ (List.mem_append_right _ (List.mem_append_right _ (List.mem_append_right _ (List.mem_append_right _ (List.mem_append_left _ hq))))))))))))) (fun hq => (absurd hq List.not_mem_nil)))))))))))))))))))))
          refine PW_v 0 rfl (by kernel_rfl) (by kernel_rfl) (by kernel_rfl) (.inl rfl) rfl (by decide) hSS (fun W hS => R_move (v := (.pointer (some ⟨b133, 0, none⟩))) rfl) ?_
          refine PW_v 2 rfl (by kernel_rfl) (by kernel_rfl) (by kernel_rfl) (.inl rfl) rfl (by decide) hSS (fun W hS => R_field fa29_0 rfl) ?_
          refine PW_v 3 rfl (by kernel_rfl) (by kernel_rfl) (by kernel_rfl) (.inl rfl) rfl (by decide) hSS (fun W hS => R_load (v := (.slice A77 r57.1.length c78)) rfl (load_box1 hS (.tail _ (.tail _ (.head _))) rfl Tryz.isAgg23)) ?_
          obtain ⟨r810, hr811, hm757⟩ := bind_some hm757
          replace hST : ST NoF w _ _ ((b133, Obj.cells (#[y134, y138, y141, y144] : Array Value) 122 (0, 0)) :: ((b116, Obj.cells (#[(.slice A118 r98.1.length c119), (.slice A120 r98.2.1.length c121), (.slice A122 r98.2.2.length c123)] : Array Value) 29 (0, 0)) :: ((b75, Obj.cells (#[(.slice A77 r57.1.length c78), (.slice A79 r57.2.1.length c80), (.slice A81 r57.2.2.length c82)] : Array Value) 29 (0, 0)) :: (S139 ++ (S142 ++ (S145 ++ (S107 ++ (S110 ++ (S113 ++ (S66 ++ (S69 ++ (S72 ++ L50)))))))))))) := hST
          have hsz := hST.size
          refine PW_e 1 rfl (by kernel_rfl) (.inl rfl) rfl (by decide) (E_givesRow (args := [(.pointer (some ⟨b133, 0, none⟩))]) [_, _, _] _ hST rfl Tryz.call21 (by exact args1 rfl) (w_graph_Graph_Targets b133 y134 r125.1 y138 r125.2.1 y141 r125.2.2.1 y144 r125.2.2.2 _ _ (hs137.mono (Pl.mono _) hST.sub_hp) (hy140.at (fun b o hq => hST.at_ (.tail _ (.tail _ (.tail _ (List.mem_append_left _ hq)))))) (hy143.at (fun b o hq => hST.at_ (.tail _ (.tail _ (.tail _ (List.mem_append_right _ (List.mem_append_left _ hq))))))) (hy146.at (fun b o hq => hST.at_ (.tail _ (.tail _ (.tail _ (List.mem_append_right _ (List.mem_append_right _ (List.mem_append_left _ hq)))))))) (At.of (hST.at_ (.head _)) _ rfl) hr811) (fun W812 v815 μ813 R816 hST hle814 hR817 => ?_))
          have hSS : (Has μ128 ((b133, Obj.cells (#[y134, y138, y141, y144] : Array Value) 122 (0, 0)) :: ((b116, Obj.cells (#[(.slice A118 r98.1.length c119), (.slice A120 r98.2.1.length c121), (.slice A122 r98.2.2.length c123)] : Array Value) 29 (0, 0)) :: ((b75, Obj.cells (#[(.slice A77 r57.1.length c78), (.slice A79 r57.2.1.length c80), (.slice A81 r57.2.2.length c82)] : Array Value) 29 (0, 0)) :: (S107 ++ (S110 ++ (S113 ++ (S66 ++ (S69 ++ (S72 ++ []))))))))) _) := ((show ST NoF w _ _ ((b133, Obj.cells (#[y134, y138, y141, y144] : Array Value) 122 (0, 0)) :: ((b116, Obj.cells (#[(.slice A118 r98.1.length c119), (.slice A120 r98.2.1.length c121), (.slice A122 r98.2.2.length c123)] : Array Value) 29 (0, 0)) :: ((b75, Obj.cells (#[(.slice A77 r57.1.length c78), (.slice A79 r57.2.1.length c80), (.slice A81 r57.2.2.length c82)] : Array Value) 29 (0, 0)) :: (R816 ++ (S139 ++ (S142 ++ (S145 ++ (S107 ++ (S110 ++ (S113 ++ (S66 ++ (S69 ++ (S72 ++ L50))))))))))))) from hST).has.sub hle814 (fun p hq => ((List.mem_cons.1 hq).elim (fun hq => by rw [hq]; exact (.head _)) (fun hq => ((List.mem_cons.1 hq).elim (fun hq => by rw [hq]; exact (.tail _ (.head _))) (fun hq => ((List.mem_cons.1 hq).elim (fun hq => by rw [hq]; exact (.tail _ (.tail _ (.head _)))) (fun hq => ((List.mem_append.1 hq).elim (fun hq => (.tail _ (.tail _ (.tail _ (List.mem_append_right _ (List.mem_append_right _ (List.mem_append_right _ (List.mem_append_right _ (List.mem_append_left _ hq))))))))) (fun hq => ((List.mem_append.1 hq).elim (fun hq => (.tail _ (.tail _ (.tail _ (List.mem_append_right _ (List.mem_append_right _ (List.mem_append_right _ (List.mem_append_right _ (List.mem_append_right _ (List.mem_append_left _ hq)))))))))) (fun hq => ((List.mem_append.1 hq).elim (fun hq => (.tail _ (.tail _ (.tail _ (List.mem_append_right _ (List.mem_append_right _ (List.mem_append_right _ (List.mem_append_right _ (List.mem_append_right _ (List.mem_append_right _ (List.mem_append_left _ hq))))))))))) (fun hq => ((List.mem_append.1 hq).elim (fun hq => (.tail _ (.tail _ (.tail _ (List.mem_append_right _ (List.mem_append_right _ (List.mem_append_right _ (List.mem_append_right _ (List.mem_append_right _ (List.mem_append_right _ (List.mem_append_right _ (List.mem_append_left _ hq)))))))))))) (fun hq => ((List.mem_append.1 hq).elim (fun hq => (.tail _ (.tail _ (.tail _ (List.mem_append_right _ (List.mem_append_right _ (List.mem_append_right _ (List.mem_append_right _ (List.mem_append_right _ (List.mem_append_right _ (List.mem_append_right _ (List.mem_append_right _ (List.mem_append_left _ hq))))))))))))) (fun hq => ((List.mem_append.1 hq).elim (fun hq => (.tail _ (.tail _ (.tail _ (List.mem_append_right _ (List.mem_append_right _ (List.mem_append_right _ (List.mem_append_right _ (List.mem_append_right _ (List.mem_append_right _ (List.mem_append_right _ (List.mem_append_right _ (List.mem_append_right _ (List.mem_append_left _ hq)))))))))))))) (fun hq => (absurd hq List.not_mem_nil)))))))))))))))))))))
          refine ⟨hSS, ?_⟩
          obtain ⟨r818, hr819, hm757⟩ := bind_some hm757
          replace hST : ST NoF w _ _ ((b133, Obj.cells (#[y134, y138, y141, y144] : Array Value) 122 (0, 0)) :: ((b116, Obj.cells (#[(.slice A118 r98.1.length c119), (.slice A120 r98.2.1.length c121), (.slice A122 r98.2.2.length c123)] : Array Value) 29 (0, 0)) :: ((b75, Obj.cells (#[(.slice A77 r57.1.length c78), (.slice A79 r57.2.1.length c80), (.slice A81 r57.2.2.length c82)] : Array Value) 29 (0, 0)) :: (R816 ++ (S139 ++ (S142 ++ (S145 ++ (S107 ++ (S110 ++ (S113 ++ (S66 ++ (S69 ++ (S72 ++ L50))))))))))))) := hST
          have hsz := hST.size
          refine PW_e 4 rfl (by kernel_rfl) (.inl rfl) rfl (by decide) (E_gives (args := [v815, (.slice A77 r57.1.length c78)]) hST rfl Tryz.call20 (by exact args2 rfl rfl) (w_ref04_Same v815 r810 (.slice A77 r57.1.length c78) r57.1 _ _ (hR817.sl lenRole (fun b o hq => hST.at_ (.tail _ (.tail _ (.tail _ (List.mem_append_left _ hq)))))) (hy67.sl lenRole (fun b o hq => hST.at_ (.tail _ (.tail _ (.tail _ (List.mem_append_right _ (List.mem_append_right _ (List.mem_append_right _ (List.mem_append_right _ (List.mem_append_right _ (List.mem_append_right _ (List.mem_append_right _ (List.mem_append_left _ hq))))))))))))) hr819) (fun W820 hST => ?_))
          have hSS : (Has μ128 ((b133, Obj.cells (#[y134, y138, y141, y144] : Array Value) 122 (0, 0)) :: ((b116, Obj.cells (#[(.slice A118 r98.1.length c119), (.slice A120 r98.2.1.length c121), (.slice A122 r98.2.2.length c123)] : Array Value) 29 (0, 0)) :: ((b75, Obj.cells (#[(.slice A77 r57.1.length c78), (.slice A79 r57.2.1.length c80), (.slice A81 r57.2.2.length c82)] : Array Value) 29 (0, 0)) :: (S107 ++ (S110 ++ (S113 ++ (S66 ++ (S69 ++ (S72 ++ []))))))))) _) := ((show ST NoF w _ _ ((b133, Obj.cells (#[y134, y138, y141, y144] : Array Value) 122 (0, 0)) :: ((b116, Obj.cells (#[(.slice A118 r98.1.length c119), (.slice A120 r98.2.1.length c121), (.slice A122 r98.2.2.length c123)] : Array Value) 29 (0, 0)) :: ((b75, Obj.cells (#[(.slice A77 r57.1.length c78), (.slice A79 r57.2.1.length c80), (.slice A81 r57.2.2.length c82)] : Array Value) 29 (0, 0)) :: (R816 ++ (S139 ++ (S142 ++ (S145 ++ (S107 ++ (S110 ++ (S113 ++ (S66 ++ (S69 ++ (S72 ++ L50))))))))))))) from hST).has.sub hle814 (fun p hq => ((List.mem_cons.1 hq).elim (fun hq => by rw [hq]; exact (.head _)) (fun hq => ((List.mem_cons.1 hq).elim (fun hq => by rw [hq]; exact (.tail _ (.head _))) (fun hq => ((List.mem_cons.1 hq).elim (fun hq => by rw [hq]; exact (.tail _ (.tail _ (.head _)))) (fun hq => ((List.mem_append.1 hq).elim (fun hq => (.tail _ (.tail _ (.tail _ (List.mem_append_right _ (List.mem_append_right _ (List.mem_append_right _ (List.mem_append_right _ (List.mem_append_left _ hq))))))))) (fun hq => ((List.mem_append.1 hq).elim (fun hq => (.tail _ (.tail _ (.tail _ (List.mem_append_right _ (List.mem_append_right _ (List.mem_append_right _ (List.mem_append_right _ (List.mem_append_right _ (List.mem_append_left _ hq)))))))))) (fun hq => ((List.mem_append.1 hq).elim (fun hq => (.tail _ (.tail _ (.tail _ (List.mem_append_right _ (List.mem_append_right _ (List.mem_append_right _ (List.mem_append_right _ (List.mem_append_right _ (List.mem_append_right _ (List.mem_append_left _ hq))))))))))) (fun hq => ((List.mem_append.1 hq).elim (fun hq => (.tail _ (.tail _ (.tail _ (List.mem_append_right _ (List.mem_append_right _ (List.mem_append_right _ (List.mem_append_right _ (List.mem_append_right _ (List.mem_append_right _ (List.mem_append_right _ (List.mem_append_left _ hq)))))))))))) (fun hq => ((List.mem_append.1 hq).elim (fun hq => (.tail _ (.tail _ (.tail _ (List.mem_append_right _ (List.mem_append_right _ (List.mem_append_right _ (List.mem_append_right _ (List.mem_append_right _ (List.mem_append_right _ (List.mem_append_right _ (List.mem_append_right _ (List.mem_append_left _ hq))))))))))))) (fun hq => ((List.mem_append.1 hq).elim (fun hq => (.tail _ (.tail _ (.tail _ (List.mem_append_right _ (List.mem_append_right _ (List.mem_append_right _ (List.mem_append_right _ (List.mem_append_right _ (List.mem_append_right _ (List.mem_append_right _ (List.mem_append_right _ (List.mem_append_right _ (List.mem_append_left _ hq)))))))))))))) (fun hq => (absurd hq List.not_mem_nil)))))))))))))))))))))
          refine ⟨hSS, ?_⟩
          refine PW_v 5 rfl (by kernel_rfl) (by kernel_rfl) (by kernel_rfl) (.inl rfl) rfl (by decide) hSS (fun W hS => R_not (b := r818) rfl) ?_
          refine PW_v 6 rfl (by kernel_rfl) (by kernel_rfl) (by kernel_rfl) (.inl rfl) rfl (by decide) hSS (fun W hS => R_move (v := (.bool ((!r818)))) rfl) ?_
          rcases bool_cases ((!r818)) with hb821 | hb821
          · replace hm757 := if_t hb821 hm757
            refine PW_no 7 rfl (by kernel_rfl) (by kernel_rfl) (by kernel_rfl) rfl rfl (by decide) (congrArg Value.bool hb821) rfl (by decide) hSS ?_
            refine PW_no 8 rfl (by kernel_rfl) (by kernel_rfl) (by kernel_rfl) rfl rfl (by decide) (congrArg Value.bool hb821) rfl (by decide) hSS ?_
            refine PW_no 9 rfl (by kernel_rfl) (by kernel_rfl) (by kernel_rfl) rfl rfl (by decide) (congrArg Value.bool hb821) rfl (by decide) hSS ?_
            refine PW_no 10 rfl (by kernel_rfl) (by kernel_rfl) (by kernel_rfl) rfl rfl (by decide) (congrArg Value.bool hb821) rfl (by decide) hSS ?_
            refine PW_no 11 rfl (by kernel_rfl) (by kernel_rfl) (by kernel_rfl) rfl rfl (by decide) (congrArg Value.bool hb821) rfl (by decide) hSS ?_
            refine PW_no 12 rfl (by kernel_rfl) (by kernel_rfl) (by kernel_rfl) rfl rfl (by decide) (congrArg Value.bool hb821) rfl (by decide) hSS ?_
            refine PW_v 13 rfl (by kernel_rfl) (by kernel_rfl) (by kernel_rfl) (.inl rfl) rfl (by decide) hSS (fun W hS => R_pickT (v := (.bool true)) (congrArg Value.bool hb821) rfl) ?_
            refine PW_v 14 rfl (by kernel_rfl) (by kernel_rfl) (by kernel_rfl) (.inl rfl) rfl (by decide) hSS (fun W hS => R_move (v := (.bool true)) rfl) ?_
            refine PW_no 15 rfl (by kernel_rfl) (by kernel_rfl) (by kernel_rfl) rfl rfl (by decide) rfl rfl (by decide) hSS ?_
            refine PW_no 16 rfl (by kernel_rfl) (by kernel_rfl) (by kernel_rfl) rfl rfl (by decide) rfl rfl (by decide) hSS ?_
            refine PW_no 17 rfl (by kernel_rfl) (by kernel_rfl) (by kernel_rfl) rfl rfl (by decide) rfl rfl (by decide) hSS ?_
            refine PW_no 18 rfl (by kernel_rfl) (by kernel_rfl) (by kernel_rfl) rfl rfl (by decide) rfl rfl (by decide) hSS ?_
            refine PW_no 19 rfl (by kernel_rfl) (by kernel_rfl) (by kernel_rfl) rfl rfl (by decide) rfl rfl (by decide) hSS ?_
            refine PW_no 20 rfl (by kernel_rfl) (by kernel_rfl) (by kernel_rfl) rfl rfl (by decide) rfl rfl (by decide) hSS ?_
            refine PW_v 21 rfl (by kernel_rfl) (by kernel_rfl) (by kernel_rfl) (.inl rfl) rfl (by decide) hSS (fun W hS => R_pickT (v := (.bool true)) rfl rfl) ?_
            refine PW_v 22 rfl (by kernel_rfl) (by kernel_rfl) (by kernel_rfl) (.inl rfl) rfl (by decide) hSS (fun W hS => R_move (v := (.bool true)) rfl) ?_
            refine PW_no 23 rfl (by kernel_rfl) (by kernel_rfl) (by kernel_rfl) rfl rfl (by decide) rfl rfl (by decide) hSS ?_
            refine PW_no 24 rfl (by kernel_rfl) (by kernel_rfl) (by kernel_rfl) rfl rfl (by decide) rfl rfl (by decide) hSS ?_
            refine PW_no 25 rfl (by kernel_rfl) (by kernel_rfl) (by kernel_rfl) rfl rfl (by decide) rfl rfl (by decide) hSS ?_
            refine PW_no 26 rfl (by kernel_rfl) (by kernel_rfl) (by kernel_rfl) rfl rfl (by decide) rfl rfl (by decide) hSS ?_
            refine PW_no 27 rfl (by kernel_rfl) (by kernel_rfl) (by kernel_rfl) rfl rfl (by decide) rfl rfl (by decide) hSS ?_
            refine PW_no 28 rfl (by kernel_rfl) (by kernel_rfl) (by kernel_rfl) rfl rfl (by decide) rfl rfl (by decide) hSS ?_
            refine PW_no 29 rfl (by kernel_rfl) (by kernel_rfl) (by kernel_rfl) rfl rfl (by decide) rfl rfl (by decide) hSS ?_
            refine PW_no 30 rfl (by kernel_rfl) (by kernel_rfl) (by kernel_rfl) rfl rfl (by decide) rfl rfl (by decide) hSS ?_
            refine PW_no 31 rfl (by kernel_rfl) (by kernel_rfl) (by kernel_rfl) rfl rfl (by decide) rfl rfl (by decide) hSS ?_
            refine PW_no 32 rfl (by kernel_rfl) (by kernel_rfl) (by kernel_rfl) rfl rfl (by decide) rfl rfl (by decide) hSS ?_
            refine PW_no 33 rfl (by kernel_rfl) (by kernel_rfl) (by kernel_rfl) rfl rfl (by decide) rfl rfl (by decide) hSS ?_
            refine PW_v 34 rfl (by kernel_rfl) (by kernel_rfl) (by kernel_rfl) (.inl rfl) rfl (by decide) hSS (fun W hS => R_pickT (v := (.bool true)) rfl rfl) ?_
            refine PW_done (by kernel_rfl) ?_
            refine sq_n ?_
            replace hm757 := Option.some.inj hm757; subst hm757
            exact ⟨true, r125.2.1, S139, r125.2.2.1, S142, r125.2.2.2, S145, μ813, _, hle814, (hST.sublist (List.Sublist.cons_cons _ (List.Sublist.cons_cons _ (List.Sublist.cons _ ((List.Sublist.append (List.Sublist.refl _) (List.Sublist.append (List.Sublist.refl _) (List.Sublist.append (List.Sublist.refl _) (List.Sublist.append (List.Sublist.refl _) (List.Sublist.append (List.Sublist.refl _) (List.Sublist.append (List.Sublist.refl _) ((((List.Sublist.refl _).trans (List.sublist_append_right _ _)).trans (List.sublist_append_right _ _)).trans (List.sublist_append_right _ _)))))))).trans (List.sublist_append_right _ _)))))), e53, rfl, rfl, rfl, hy140, hy143, hy146, hm758⟩
          · replace hm757 := if_f hb821 hm757
            refine PW_v 7 rfl (by kernel_rfl) (by kernel_rfl) (by kernel_rfl) (.inr ⟨6, false, 43, rfl, rfl, by decide, (congrArg Value.bool hb821)⟩) rfl (by decide) hSS (fun W hS => R_move (v := (.pointer (some ⟨b133, 0, none⟩))) rfl) ?_
            refine PW_v 9 rfl (by kernel_rfl) (by kernel_rfl) (by kernel_rfl) (.inr ⟨6, false, 43, rfl, rfl, by decide, (congrArg Value.bool hb821)⟩) rfl (by decide) hSS (fun W hS => R_field fa29_1 rfl) ?_
            refine PW_v 10 rfl (by kernel_rfl) (by kernel_rfl) (by kernel_rfl) (.inr ⟨6, false, 43, rfl, rfl, by decide, (congrArg Value.bool hb821)⟩) rfl (by decide) hSS (fun W hS => R_load (v := (.slice A79 r57.2.1.length c80)) rfl (load_box1 hS (.tail _ (.tail _ (.head _))) rfl Tryz.isAgg27)) ?_
            obtain ⟨r822, hr823, hm757⟩ := bind_some hm757
            replace hST : ST NoF w _ _ ((b133, Obj.cells (#[y134, y138, y141, y144] : Array Value) 122 (0, 0)) :: ((b116, Obj.cells (#[(.slice A118 r98.1.length c119), (.slice A120 r98.2.1.length c121), (.slice A122 r98.2.2.length c123)] : Array Value) 29 (0, 0)) :: ((b75, Obj.cells (#[(.slice A77 r57.1.length c78), (.slice A79 r57.2.1.length c80), (.slice A81 r57.2.2.length c82)] : Array Value) 29 (0, 0)) :: (R816 ++ (S139 ++ (S142 ++ (S145 ++ (S107 ++ (S110 ++ (S113 ++ (S66 ++ (S69 ++ (S72 ++ L50))))))))))))) := hST
            have hsz := hST.size
            refine PW_e 8 rfl (by kernel_rfl) (.inr ⟨6, false, 43, rfl, rfl, by decide, (congrArg Value.bool hb821)⟩) rfl (by decide) (E_givesRow (args := [(.pointer (some ⟨b133, 0, none⟩))]) [_, _, _] _ hST rfl Tryz.call23 (by exact args1 rfl) (w_graph_Graph_Words b133 y134 r125.1 y138 r125.2.1 y141 r125.2.2.1 y144 r125.2.2.2 _ _ (hs137.mono (Pl.mono _) (hle814.trans hST.sub_hp)) (hy140.at (fun b o hq => hST.at_ (.tail _ (.tail _ (.tail _ (List.mem_append_right _ (List.mem_append_left _ hq))))))) (hy143.at (fun b o hq => hST.at_ (.tail _ (.tail _ (.tail _ (List.mem_append_right _ (List.mem_append_right _ (List.mem_append_left _ hq)))))))) (hy146.at (fun b o hq => hST.at_ (.tail _ (.tail _ (.tail _ (List.mem_append_right _ (List.mem_append_right _ (List.mem_append_right _ (List.mem_append_left _ hq))))))))) (At.of (hST.at_ (.head _)) _ rfl) hr823) (fun W824 v827 μ825 R828 hST hle826 hR829 => ?_))
            have hSS : (Has μ128 ((b133, Obj.cells (#[y134, y138, y141, y144] : Array Value) 122 (0, 0)) :: ((b116, Obj.cells (#[(.slice A118 r98.1.length c119), (.slice A120 r98.2.1.length c121), (.slice A122 r98.2.2.length c123)] : Array Value) 29 (0, 0)) :: ((b75, Obj.cells (#[(.slice A77 r57.1.length c78), (.slice A79 r57.2.1.length c80), (.slice A81 r57.2.2.length c82)] : Array Value) 29 (0, 0)) :: (S107 ++ (S110 ++ (S113 ++ (S66 ++ (S69 ++ (S72 ++ []))))))))) _) := ((show ST NoF w _ _ ((b133, Obj.cells (#[y134, y138, y141, y144] : Array Value) 122 (0, 0)) :: ((b116, Obj.cells (#[(.slice A118 r98.1.length c119), (.slice A120 r98.2.1.length c121), (.slice A122 r98.2.2.length c123)] : Array Value) 29 (0, 0)) :: ((b75, Obj.cells (#[(.slice A77 r57.1.length c78), (.slice A79 r57.2.1.length c80), (.slice A81 r57.2.2.length c82)] : Array Value) 29 (0, 0)) :: (R828 ++ (R816 ++ (S139 ++ (S142 ++ (S145 ++ (S107 ++ (S110 ++ (S113 ++ (S66 ++ (S69 ++ (S72 ++ L50)))))))))))))) from hST).has.sub (hle814.trans hle826) (fun p hq => ((List.mem_cons.1 hq).elim (fun hq => by rw [hq]; exact (.head _)) (fun hq => ((List.mem_cons.1 hq).elim (fun hq => by rw [hq]; exact (.tail _ (.head _))) (fun hq => ((List.mem_cons.1 hq).elim (fun hq => by rw [hq]; exact (.tail _ (.tail _ (.head _)))) (fun hq => ((List.mem_append.1 hq).elim (fun hq => (.tail _ (.tail _ (.tail _ (List.mem_append_right _ (List.mem_append_right _ (List.mem_append_right _ (List.mem_append_right _ (List.mem_append_right _ (List.mem_append_left _ hq)))))))))) (fun hq => ((List.mem_append.1 hq).elim (fun hq => (.tail _ (.tail _ (.tail _ (List.mem_append_right _ (List.mem_append_right _ (List.mem_append_right _ (List.mem_append_right _ (List.mem_append_right _ (List.mem_append_right _ (List.mem_append_left _ hq))))))))))) (fun hq => ((List.mem_append.1 hq).elim (fun hq => (.tail _ (.tail _ (.tail _ (List.mem_append_right _ (List.mem_append_right _ (List.mem_append_right _ (List.mem_append_right _ (List.mem_append_right _ (List.mem_append_right _ (List.mem_append_right _ (List.mem_append_left _ hq)))))))))))) (fun hq => ((List.mem_append.1 hq).elim (fun hq => (.tail _ (.tail _ (.tail _ (List.mem_append_right _ (List.mem_append_right _ (List.mem_append_right _ (List.mem_append_right _ (List.mem_append_right _ (List.mem_append_right _ (List.mem_append_right _ (List.mem_append_right _ (List.mem_append_left _ hq))))))))))))) (fun hq => ((List.mem_append.1 hq).elim (fun hq => (.tail _ (.tail _ (.tail _ (List.mem_append_right _ (List.mem_append_right _ (List.mem_append_right _ (List.mem_append_right _ (List.mem_append_right _ (List.mem_append_right _ (List.mem_append_right _ (List.mem_append_right _ (List.mem_append_right _ (List.mem_append_left _ hq)))))))))))))) (fun hq => ((List.mem_append.1 hq).elim (fun hq => (.tail _ (.tail _ (.tail _ (List.mem_append_right _ (List.mem_append_right _ (List.mem_append_right _ (List.mem_append_right _ (List.mem_append_right _ (List.mem_append_right _ (List.mem_append_right _ (List.mem_append_right _ (List.mem_append_right _ (List.mem_append_right _ (List.mem_append_left _ hq))))))))))))))) (fun hq => (absurd hq List.not_mem_nil)))))))))))))))))))))
            refine ⟨hSS, ?_⟩
            obtain ⟨r830, hr831, hm757⟩ := bind_some hm757
            replace hST : ST NoF w _ _ ((b133, Obj.cells (#[y134, y138, y141, y144] : Array Value) 122 (0, 0)) :: ((b116, Obj.cells (#[(.slice A118 r98.1.length c119), (.slice A120 r98.2.1.length c121), (.slice A122 r98.2.2.length c123)] : Array Value) 29 (0, 0)) :: ((b75, Obj.cells (#[(.slice A77 r57.1.length c78), (.slice A79 r57.2.1.length c80), (.slice A81 r57.2.2.length c82)] : Array Value) 29 (0, 0)) :: (R828 ++ (R816 ++ (S139 ++ (S142 ++ (S145 ++ (S107 ++ (S110 ++ (S113 ++ (S66 ++ (S69 ++ (S72 ++ L50)))))))))))))) := hST
            have hsz := hST.size
            refine PW_e 11 rfl (by kernel_rfl) (.inr ⟨6, false, 43, rfl, rfl, by decide, (congrArg Value.bool hb821)⟩) rfl (by decide) (E_gives (args := [v827, (.slice A79 r57.2.1.length c80)]) hST rfl Tryz.call22 (by exact args2 rfl rfl) (w_ref03_Same v827 r822 (.slice A79 r57.2.1.length c80) r57.2.1 _ _ (hR829.sl (fun _ => rfl) (fun b o hq => hST.at_ (.tail _ (.tail _ (.tail _ (List.mem_append_left _ hq)))))) (hy70.sl (fun _ => rfl) (fun b o hq => hST.at_ (.tail _ (.tail _ (.tail _ (List.mem_append_right _ (List.mem_append_right _ (List.mem_append_right _ (List.mem_append_right _ (List.mem_append_right _ (List.mem_append_right _ (List.mem_append_right _ (List.mem_append_right _ (List.mem_append_right _ (List.mem_append_left _ hq))))))))))))))) hr831) (fun W832 hST => ?_))
            have hSS : (Has μ128 ((b133, Obj.cells (#[y134, y138, y141, y144] : Array Value) 122 (0, 0)) :: ((b116, Obj.cells (#[(.slice A118 r98.1.length c119), (.slice A120 r98.2.1.length c121), (.slice A122 r98.2.2.length c123)] : Array Value) 29 (0, 0)) :: ((b75, Obj.cells (#[(.slice A77 r57.1.length c78), (.slice A79 r57.2.1.length c80), (.slice A81 r57.2.2.length c82)] : Array Value) 29 (0, 0)) :: (S107 ++ (S110 ++ (S113 ++ (S66 ++ (S69 ++ (S72 ++ []))))))))) _) := ((show ST NoF w _ _ ((b133, Obj.cells (#[y134, y138, y141, y144] : Array Value) 122 (0, 0)) :: ((b116, Obj.cells (#[(.slice A118 r98.1.length c119), (.slice A120 r98.2.1.length c121), (.slice A122 r98.2.2.length c123)] : Array Value) 29 (0, 0)) :: ((b75, Obj.cells (#[(.slice A77 r57.1.length c78), (.slice A79 r57.2.1.length c80), (.slice A81 r57.2.2.length c82)] : Array Value) 29 (0, 0)) :: (R828 ++ (R816 ++ (S139 ++ (S142 ++ (S145 ++ (S107 ++ (S110 ++ (S113 ++ (S66 ++ (S69 ++ (S72 ++ L50)))))))))))))) from hST).has.sub (hle814.trans hle826) (fun p hq => ((List.mem_cons.1 hq).elim (fun hq => by rw [hq]; exact (.head _)) (fun hq => ((List.mem_cons.1 hq).elim (fun hq => by rw [hq]; exact (.tail _ (.head _))) (fun hq => ((List.mem_cons.1 hq).elim (fun hq => by rw [hq]; exact (.tail _ (.tail _ (.head _)))) (fun hq => ((List.mem_append.1 hq).elim (fun hq => (.tail _ (.tail _ (.tail _ (List.mem_append_right _ (List.mem_append_right _ (List.mem_append_right _ (List.mem_append_right _ (List.mem_append_right _ (List.mem_append_left _ hq)))))))))) (fun hq => ((List.mem_append.1 hq).elim (fun hq => (.tail _ (.tail _ (.tail _ (List.mem_append_right _ (List.mem_append_right _ (List.mem_append_right _ (List.mem_append_right _ (List.mem_append_right _ (List.mem_append_right _ (List.mem_append_left _ hq))))))))))) (fun hq => ((List.mem_append.1 hq).elim (fun hq => (.tail _ (.tail _ (.tail _ (List.mem_append_right _ (List.mem_append_right _ (List.mem_append_right _ (List.mem_append_right _ (List.mem_append_right _ (List.mem_append_right _ (List.mem_append_right _ (List.mem_append_left _ hq)))))))))))) (fun hq => ((List.mem_append.1 hq).elim (fun hq => (.tail _ (.tail _ (.tail _ (List.mem_append_right _ (List.mem_append_right _ (List.mem_append_right _ (List.mem_append_right _ (List.mem_append_right _ (List.mem_append_right _ (List.mem_append_right _ (List.mem_append_right _ (List.mem_append_left _ hq))))))))))))) (fun hq => ((List.mem_append.1 hq).elim (fun hq => (.tail _ (.tail _ (.tail _ (List.mem_append_right _ (List.mem_append_right _ (List.mem_append_right _ (List.mem_append_right _ (List.mem_append_right _ (List.mem_append_right _ (List.mem_append_right _ (List.mem_append_right _ (List.mem_append_right _ (List.mem_append_left _ hq)))))))))))))) (fun hq => ((List.mem_append.1 hq).elim (fun hq => (.tail _ (.tail _ (.tail _ (List.mem_append_right _ (List.mem_append_right _ (List.mem_append_right _ (List.mem_append_right _ (List.mem_append_right _ (List.mem_append_right _ (List.mem_append_right _ (List.mem_append_right _ (List.mem_append_right _ (List.mem_append_right _ (List.mem_append_left _ hq))))))))))))))) (fun hq => (absurd hq List.not_mem_nil)))))))))))))))))))))
            refine ⟨hSS, ?_⟩
            refine PW_v 12 rfl (by kernel_rfl) (by kernel_rfl) (by kernel_rfl) (.inr ⟨6, false, 43, rfl, rfl, by decide, (congrArg Value.bool hb821)⟩) rfl (by decide) hSS (fun W hS => R_not (b := r830) rfl) ?_
            refine PW_v 13 rfl (by kernel_rfl) (by kernel_rfl) (by kernel_rfl) (.inl rfl) rfl (by decide) hSS (fun W hS => R_pickF (v := (.bool ((!r830)))) (congrArg Value.bool hb821) rfl) ?_
            refine PW_v 14 rfl (by kernel_rfl) (by kernel_rfl) (by kernel_rfl) (.inl rfl) rfl (by decide) hSS (fun W hS => R_move (v := (.bool ((!r830)))) rfl) ?_
            rcases bool_cases ((!r830)) with hb833 | hb833
            · replace hm757 := if_t hb833 hm757
              refine PW_no 15 rfl (by kernel_rfl) (by kernel_rfl) (by kernel_rfl) rfl rfl (by decide) (congrArg Value.bool hb833) rfl (by decide) hSS ?_
              refine PW_no 16 rfl (by kernel_rfl) (by kernel_rfl) (by kernel_rfl) rfl rfl (by decide) (congrArg Value.bool hb833) rfl (by decide) hSS ?_
              refine PW_no 17 rfl (by kernel_rfl) (by kernel_rfl) (by kernel_rfl) rfl rfl (by decide) (congrArg Value.bool hb833) rfl (by decide) hSS ?_
              refine PW_no 18 rfl (by kernel_rfl) (by kernel_rfl) (by kernel_rfl) rfl rfl (by decide) (congrArg Value.bool hb833) rfl (by decide) hSS ?_
              refine PW_no 19 rfl (by kernel_rfl) (by kernel_rfl) (by kernel_rfl) rfl rfl (by decide) (congrArg Value.bool hb833) rfl (by decide) hSS ?_
              refine PW_no 20 rfl (by kernel_rfl) (by kernel_rfl) (by kernel_rfl) rfl rfl (by decide) (congrArg Value.bool hb833) rfl (by decide) hSS ?_
              refine PW_v 21 rfl (by kernel_rfl) (by kernel_rfl) (by kernel_rfl) (.inl rfl) rfl (by decide) hSS (fun W hS => R_pickT (v := (.bool true)) (congrArg Value.bool hb833) rfl) ?_
              refine PW_v 22 rfl (by kernel_rfl) (by kernel_rfl) (by kernel_rfl) (.inl rfl) rfl (by decide) hSS (fun W hS => R_move (v := (.bool true)) rfl) ?_
              refine PW_no 23 rfl (by kernel_rfl) (by kernel_rfl) (by kernel_rfl) rfl rfl (by decide) rfl rfl (by decide) hSS ?_
              refine PW_no 24 rfl (by kernel_rfl) (by kernel_rfl) (by kernel_rfl) rfl rfl (by decide) rfl rfl (by decide) hSS ?_
              refine PW_no 25 rfl (by kernel_rfl) (by kernel_rfl) (by kernel_rfl) rfl rfl (by decide) rfl rfl (by decide) hSS ?_
              refine PW_no 26 rfl (by kernel_rfl) (by kernel_rfl) (by kernel_rfl) rfl rfl (by decide) rfl rfl (by decide) hSS ?_
              refine PW_no 27 rfl (by kernel_rfl) (by kernel_rfl) (by kernel_rfl) rfl rfl (by decide) rfl rfl (by decide) hSS ?_
              refine PW_no 28 rfl (by kernel_rfl) (by kernel_rfl) (by kernel_rfl) rfl rfl (by decide) rfl rfl (by decide) hSS ?_
              refine PW_no 29 rfl (by kernel_rfl) (by kernel_rfl) (by kernel_rfl) rfl rfl (by decide) rfl rfl (by decide) hSS ?_
              refine PW_no 30 rfl (by kernel_rfl) (by kernel_rfl) (by kernel_rfl) rfl rfl (by decide) rfl rfl (by decide) hSS ?_
              refine PW_no 31 rfl (by kernel_rfl) (by kernel_rfl) (by kernel_rfl) rfl rfl (by decide) rfl rfl (by decide) hSS ?_
              refine PW_no 32 rfl (by kernel_rfl) (by kernel_rfl) (by kernel_rfl) rfl rfl (by decide) rfl rfl (by decide) hSS ?_
              refine PW_no 33 rfl (by kernel_rfl) (by kernel_rfl) (by kernel_rfl) rfl rfl (by decide) rfl rfl (by decide) hSS ?_
              refine PW_v 34 rfl (by kernel_rfl) (by kernel_rfl) (by kernel_rfl) (.inl rfl) rfl (by decide) hSS (fun W hS => R_pickT (v := (.bool true)) rfl rfl) ?_
              refine PW_done (by kernel_rfl) ?_
              refine sq_n ?_
              replace hm757 := Option.some.inj hm757; subst hm757
              exact ⟨true, r125.2.1, S139, r125.2.2.1, S142, r125.2.2.2, S145, μ825, _, (hle814.trans hle826), (hST.sublist (List.Sublist.cons_cons _ (List.Sublist.cons_cons _ (List.Sublist.cons _ (((List.Sublist.append (List.Sublist.refl _) (List.Sublist.append (List.Sublist.refl _) (List.Sublist.append (List.Sublist.refl _) (List.Sublist.append (List.Sublist.refl _) (List.Sublist.append (List.Sublist.refl _) (List.Sublist.append (List.Sublist.refl _) ((((List.Sublist.refl _).trans (List.sublist_append_right _ _)).trans (List.sublist_append_right _ _)).trans (List.sublist_append_right _ _)))))))).trans (List.sublist_append_right _ _)).trans (List.sublist_append_right _ _)))))), e53, rfl, rfl, rfl, hy140, hy143, hy146, hm758⟩
            · replace hm757 := if_f hb833 hm757
              refine PW_v 15 rfl (by kernel_rfl) (by kernel_rfl) (by kernel_rfl) (.inr ⟨14, false, 51, rfl, rfl, by decide, (congrArg Value.bool hb833)⟩) rfl (by decide) hSS (fun W hS => R_move (v := (.pointer (some ⟨b133, 0, none⟩))) rfl) ?_
              refine PW_v 17 rfl (by kernel_rfl) (by kernel_rfl) (by kernel_rfl) (.inr ⟨14, false, 51, rfl, rfl, by decide, (congrArg Value.bool hb833)⟩) rfl (by decide) hSS (fun W hS => R_field fa29_2 rfl) ?_
              refine PW_v 18 rfl (by kernel_rfl) (by kernel_rfl) (by kernel_rfl) (.inr ⟨14, false, 51, rfl, rfl, by decide, (congrArg Value.bool hb833)⟩) rfl (by decide) hSS (fun W hS => R_load (v := (.slice A81 r57.2.2.length c82)) rfl (load_box1 hS (.tail _ (.tail _ (.head _))) rfl Tryz.isAgg22)) ?_
              obtain ⟨r834, hr835, hm757⟩ := bind_some hm757
              replace hST : ST NoF w _ _ ((b133, Obj.cells (#[y134, y138, y141, y144] : Array Value) 122 (0, 0)) :: ((b116, Obj.cells (#[(.slice A118 r98.1.length c119), (.slice A120 r98.2.1.length c121), (.slice A122 r98.2.2.length c123)] : Array Value) 29 (0, 0)) :: ((b75, Obj.cells (#[(.slice A77 r57.1.length c78), (.slice A79 r57.2.1.length c80), (.slice A81 r57.2.2.length c82)] : Array Value) 29 (0, 0)) :: (R828 ++ (R816 ++ (S139 ++ (S142 ++ (S145 ++ (S107 ++ (S110 ++ (S113 ++ (S66 ++ (S69 ++ (S72 ++ L50)))))))))))))) := hST
              have hsz := hST.size
              refine PW_e 16 rfl (by kernel_rfl) (.inr ⟨14, false, 51, rfl, rfl, by decide, (congrArg Value.bool hb833)⟩) rfl (by decide) (E_givesRow (args := [(.pointer (some ⟨b133, 0, none⟩))]) [_, _, _] _ hST rfl Tryz.call25 (by exact args1 rfl) (w_graph_Graph_Relevant b133 y134 r125.1 y138 r125.2.1 y141 r125.2.2.1 y144 r125.2.2.2 _ _ (hs137.mono (Pl.mono _) ((hle814.trans hle826).trans hST.sub_hp)) (hy140.at (fun b o hq => hST.at_ (.tail _ (.tail _ (.tail _ (List.mem_append_right _ (List.mem_append_right _ (List.mem_append_left _ hq)))))))) (hy143.at (fun b o hq => hST.at_ (.tail _ (.tail _ (.tail _ (List.mem_append_right _ (List.mem_append_right _ (List.mem_append_right _ (List.mem_append_left _ hq))))))))) (hy146.at (fun b o hq => hST.at_ (.tail _ (.tail _ (.tail _ (List.mem_append_right _ (List.mem_append_right _ (List.mem_append_right _ (List.mem_append_right _ (List.mem_append_left _ hq)))))))))) (At.of (hST.at_ (.head _)) _ rfl) hr835) (fun W836 v839 μ837 R840 hST hle838 hR841 => ?_))
              have hSS : (Has μ128 ((b133, Obj.cells (#[y134, y138, y141, y144] : Array Value) 122 (0, 0)) :: ((b116, Obj.cells (#[(.slice A118 r98.1.length c119), (.slice A120 r98.2.1.length c121), (.slice A122 r98.2.2.length c123)] : Array Value) 29 (0, 0)) :: ((b75, Obj.cells (#[(.slice A77 r57.1.length c78), (.slice A79 r57.2.1.length c80), (.slice A81 r57.2.2.length c82)] : Array Value) 29 (0, 0)) :: (S107 ++ (S110 ++ (S113 ++ (S66 ++ (S69 ++ (S72 ++ []))))))))) _) := ((show ST NoF w _ _ ((b133, Obj.cells (#[y134, y138, y141, y144] : Array Value) 122 (0, 0)) :: ((b116, Obj.cells (#[(.slice A118 r98.1.length c119), (.slice A120 r98.2.1.length c121), (.slice A122 r98.2.2.length c123)] : Array Value) 29 (0, 0)) :: ((b75, Obj.cells (#[(.slice A77 r57.1.length c78), (.slice A79 r57.2.1.length c80), (.slice A81 r57.2.2.length c82)] : Array Value) 29 (0, 0)) :: (R840 ++ (R828 ++ (R816 ++ (S139 ++ (S142 ++ (S145 ++ (S107 ++ (S110 ++ (S113 ++ (S66 ++ (S69 ++ (S72 ++ L50))))))))))))))) from hST).has.sub ((hle814.trans hle826).trans hle838) (fun p hq => ((List.mem_cons.1 hq).elim (fun hq => by rw [hq]; exact (.head _)) (fun hq => ((List.mem_cons.1 hq).elim (fun hq => by rw [hq]; exact (.tail _ (.head _))) (fun hq => ((List.mem_cons.1 hq).elim (fun hq => by rw [hq]; exact (.tail _ (.tail _ (.head _)))) (fun hq => ((List.mem_append.1 hq).elim (fun hq => (.tail _ (.tail _ (.tail _ (List.mem_append_right _ (List.mem_append_right _ (List.mem_append_right _ (List.mem_append_right _ (List.mem_append_right _ (List.mem_append_right _ (List.mem_append_left _ hq))))))))))) (fun hq => ((List.mem_append.1 hq).elim (fun hq => (.tail _ (.tail _ (.tail _ (List.mem_append_right _ (List.mem_append_right _ (List.mem_append_right _ (List.mem_append_right _ (List.mem_append_right _ (List.mem_append_right _ (List.mem_append_right _ (List.mem_append_left _ hq)))))))))))) (fun hq => ((List.mem_append.1 hq).elim (fun hq => (.tail _ (.tail _ (.tail _ (List.mem_append_right _ (List.mem_append_right _ (List.mem_append_right _ (List.mem_append_right _ (List.mem_append_right _ (List.mem_append_right _ (List.mem_append_right _ (List.mem_append_right _ (List.mem_append_left _ hq))))))))))))) (fun hq => ((List.mem_append.1 hq).elim (fun hq => (.tail _ (.tail _ (.tail _ (List.mem_append_right _ (List.mem_append_right _ (List.mem_append_right _ (List.mem_append_right _ (List.mem_append_right _ (List.mem_append_right _ (List.mem_append_right _ (List.mem_append_right _ (List.mem_append_right _ (List.mem_append_left _ hq)))))))))))))) (fun hq => ((List.mem_append.1 hq).elim (fun hq => (.tail _ (.tail _ (.tail _ (List.mem_append_right _ (List.mem_append_right _ (List.mem_append_right _ (List.mem_append_right _ (List.mem_append_right _ (List.mem_append_right _ (List.mem_append_right _ (List.mem_append_right _ (List.mem_append_right _ (List.mem_append_right _ (List.mem_append_left _ hq))))))))))))))) (fun hq => ((List.mem_append.1 hq).elim (fun hq => (.tail _ (.tail _ (.tail _ (List.mem_append_right _ (List.mem_append_right _ (List.mem_append_right _ (List.mem_append_right _ (List.mem_append_right _ (List.mem_append_right _ (List.mem_append_right _ (List.mem_append_right _ (List.mem_append_right _ (List.mem_append_right _ (List.mem_append_right _ (List.mem_append_left _ hq)))))))))))))))) (fun hq => (absurd hq List.not_mem_nil)))))))))))))))))))))
              refine ⟨hSS, ?_⟩
              obtain ⟨r842, hr843, hm757⟩ := bind_some hm757
              replace hST : ST NoF w _ _ ((b133, Obj.cells (#[y134, y138, y141, y144] : Array Value) 122 (0, 0)) :: ((b116, Obj.cells (#[(.slice A118 r98.1.length c119), (.slice A120 r98.2.1.length c121), (.slice A122 r98.2.2.length c123)] : Array Value) 29 (0, 0)) :: ((b75, Obj.cells (#[(.slice A77 r57.1.length c78), (.slice A79 r57.2.1.length c80), (.slice A81 r57.2.2.length c82)] : Array Value) 29 (0, 0)) :: (R840 ++ (R828 ++ (R816 ++ (S139 ++ (S142 ++ (S145 ++ (S107 ++ (S110 ++ (S113 ++ (S66 ++ (S69 ++ (S72 ++ L50))))))))))))))) := hST
              have hsz := hST.size
              refine PW_e 19 rfl (by kernel_rfl) (.inr ⟨14, false, 51, rfl, rfl, by decide, (congrArg Value.bool hb833)⟩) rfl (by decide) (E_gives (args := [v839, (.slice A81 r57.2.2.length c82)]) hST rfl Tryz.call24 (by exact args2 rfl rfl) (w_ref05_Same v839 r834 (.slice A81 r57.2.2.length c82) r57.2.2 _ _ (hR841.sl lenCred (fun b o hq => hST.at_ (.tail _ (.tail _ (.tail _ (List.mem_append_left _ hq)))))) (hy73.sl lenCred (fun b o hq => hST.at_ (.tail _ (.tail _ (.tail _ (List.mem_append_right _ (List.mem_append_right _ (List.mem_append_right _ (List.mem_append_right _ (List.mem_append_right _ (List.mem_append_right _ (List.mem_append_right _ (List.mem_append_right _ (List.mem_append_right _ (List.mem_append_right _ (List.mem_append_right _ (List.mem_append_left _ hq))))))))))))))))) hr843) (fun W844 hST => ?_))
              have hSS : (Has μ128 ((b133, Obj.cells (#[y134, y138, y141, y144] : Array Value) 122 (0, 0)) :: ((b116, Obj.cells (#[(.slice A118 r98.1.length c119), (.slice A120 r98.2.1.length c121), (.slice A122 r98.2.2.length c123)] : Array Value) 29 (0, 0)) :: ((b75, Obj.cells (#[(.slice A77 r57.1.length c78), (.slice A79 r57.2.1.length c80), (.slice A81 r57.2.2.length c82)] : Array Value) 29 (0, 0)) :: (S107 ++ (S110 ++ (S113 ++ (S66 ++ (S69 ++ (S72 ++ []))))))))) _) := ((show ST NoF w _ _ ((b133, Obj.cells (#[y134, y138, y141, y144] : Array Value) 122 (0, 0)) :: ((b116, Obj.cells (#[(.slice A118 r98.1.length c119), (.slice A120 r98.2.1.length c121), (.slice A122 r98.2.2.length c123)] : Array Value) 29 (0, 0)) :: ((b75, Obj.cells (#[(.slice A77 r57.1.length c78), (.slice A79 r57.2.1.length c80), (.slice A81 r57.2.2.length c82)] : Array Value) 29 (0, 0)) :: (R840 ++ (R828 ++ (R816 ++ (S139 ++ (S142 ++ (S145 ++ (S107 ++ (S110 ++ (S113 ++ (S66 ++ (S69 ++ (S72 ++ L50))))))))))))))) from hST).has.sub ((hle814.trans hle826).trans hle838) (fun p hq => ((List.mem_cons.1 hq).elim (fun hq => by rw [hq]; exact (.head _)) (fun hq => ((List.mem_cons.1 hq).elim (fun hq => by rw [hq]; exact (.tail _ (.head _))) (fun hq => ((List.mem_cons.1 hq).elim (fun hq => by rw [hq]; exact (.tail _ (.tail _ (.head _)))) (fun hq => ((List.mem_append.1 hq).elim (fun hq => (.tail _ (.tail _ (.tail _ (List.mem_append_right _ (List.mem_append_right _ (List.mem_append_right _ (List.mem_append_right _ (List.mem_append_right _ (List.mem_append_right _ (List.mem_append_left _ hq))))))))))) (fun hq => ((List.mem_append.1 hq).elim (fun hq => (.tail _ (.tail _ (.tail _ (List.mem_append_right _ (List.mem_append_right _ (List.mem_append_right _ (List.mem_append_right _ (List.mem_append_right _ (List.mem_append_right _ (List.mem_append_right _ (List.mem_append_left _ hq)))))))))))) (fun hq => ((List.mem_append.1 hq).elim (fun hq => (.tail _ (.tail _ (.tail _ (List.mem_append_right _ (List.mem_append_right _ (List.mem_append_right _ (List.mem_append_right _ (List.mem_append_right _ (List.mem_append_right _ (List.mem_append_right _ (List.mem_append_right _ (List.mem_append_left _ hq))))))))))))) (fun hq => ((List.mem_append.1 hq).elim (fun hq => (.tail _ (.tail _ (.tail _ (List.mem_append_right _ (List.mem_append_right _ (List.mem_append_right _ (List.mem_append_right _ (List.mem_append_right _ (List.mem_append_right _ (List.mem_append_right _ (List.mem_append_right _ (List.mem_append_right _ (List.mem_append_left _ hq)))))))))))))) (fun hq => ((List.mem_append.1 hq).elim (fun hq => (.tail _ (.tail _ (.tail _ (List.mem_append_right _ (List.mem_append_right _ (List.mem_append_right _ (List.mem_append_right _ (List.mem_append_right _ (List.mem_append_right _ (List.mem_append_right _ (List.mem_append_right _ (List.mem_append_right _ (List.mem_append_right _ (List.mem_append_left _ hq))))))))))))))) (fun hq => ((List.mem_append.1 hq).elim (fun hq => (.tail _ (.tail _ (.tail _ (List.mem_append_right _ (List.mem_append_right _ (List.mem_append_right _ (List.mem_append_right _ (List.mem_append_right _ (List.mem_append_right _ (List.mem_append_right _ (List.mem_append_right _ (List.mem_append_right _ (List.mem_append_right _ (List.mem_append_right _ (List.mem_append_left _ hq)))))))))))))))) (fun hq => (absurd hq List.not_mem_nil)))))))))))))))))))))
              refine ⟨hSS, ?_⟩
              refine PW_v 20 rfl (by kernel_rfl) (by kernel_rfl) (by kernel_rfl) (.inr ⟨14, false, 51, rfl, rfl, by decide, (congrArg Value.bool hb833)⟩) rfl (by decide) hSS (fun W hS => R_not (b := r842) rfl) ?_
              refine PW_v 21 rfl (by kernel_rfl) (by kernel_rfl) (by kernel_rfl) (.inl rfl) rfl (by decide) hSS (fun W hS => R_pickF (v := (.bool ((!r842)))) (congrArg Value.bool hb833) rfl) ?_
              refine PW_v 22 rfl (by kernel_rfl) (by kernel_rfl) (by kernel_rfl) (.inl rfl) rfl (by decide) hSS (fun W hS => R_move (v := (.bool ((!r842)))) rfl) ?_
              rcases bool_cases ((!r842)) with hb845 | hb845
              · replace hm757 := if_t hb845 hm757
                refine PW_no 23 rfl (by kernel_rfl) (by kernel_rfl) (by kernel_rfl) rfl rfl (by decide) (congrArg Value.bool hb845) rfl (by decide) hSS ?_
                refine PW_no 24 rfl (by kernel_rfl) (by kernel_rfl) (by kernel_rfl) rfl rfl (by decide) (congrArg Value.bool hb845) rfl (by decide) hSS ?_
                refine PW_no 25 rfl (by kernel_rfl) (by kernel_rfl) (by kernel_rfl) rfl rfl (by decide) (congrArg Value.bool hb845) rfl (by decide) hSS ?_
                refine PW_no 26 rfl (by kernel_rfl) (by kernel_rfl) (by kernel_rfl) rfl rfl (by decide) (congrArg Value.bool hb845) rfl (by decide) hSS ?_
                refine PW_no 27 rfl (by kernel_rfl) (by kernel_rfl) (by kernel_rfl) rfl rfl (by decide) (congrArg Value.bool hb845) rfl (by decide) hSS ?_
                refine PW_no 28 rfl (by kernel_rfl) (by kernel_rfl) (by kernel_rfl) rfl rfl (by decide) (congrArg Value.bool hb845) rfl (by decide) hSS ?_
                refine PW_no 29 rfl (by kernel_rfl) (by kernel_rfl) (by kernel_rfl) rfl rfl (by decide) (congrArg Value.bool hb845) rfl (by decide) hSS ?_
                refine PW_no 30 rfl (by kernel_rfl) (by kernel_rfl) (by kernel_rfl) rfl rfl (by decide) (congrArg Value.bool hb845) rfl (by decide) hSS ?_
                refine PW_no 31 rfl (by kernel_rfl) (by kernel_rfl) (by kernel_rfl) rfl rfl (by decide) (congrArg Value.bool hb845) rfl (by decide) hSS ?_
                refine PW_no 32 rfl (by kernel_rfl) (by kernel_rfl) (by kernel_rfl) rfl rfl (by decide) (congrArg Value.bool hb845) rfl (by decide) hSS ?_
                refine PW_no 33 rfl (by kernel_rfl) (by kernel_rfl) (by kernel_rfl) rfl rfl (by decide) (congrArg Value.bool hb845) rfl (by decide) hSS ?_
                refine PW_v 34 rfl (by kernel_rfl) (by kernel_rfl) (by kernel_rfl) (.inl rfl) rfl (by decide) hSS (fun W hS => R_pickT (v := (.bool true)) (congrArg Value.bool hb845) rfl) ?_
                refine PW_done (by kernel_rfl) ?_
                refine sq_n ?_
                replace hm757 := Option.some.inj hm757; subst hm757
                exact ⟨true, r125.2.1, S139, r125.2.2.1, S142, r125.2.2.2, S145, μ837, _, ((hle814.trans hle826).trans hle838), (hST.sublist (List.Sublist.cons_cons _ (List.Sublist.cons_cons _ (List.Sublist.cons _ ((((List.Sublist.append (List.Sublist.refl _) (List.Sublist.append (List.Sublist.refl _) (List.Sublist.append (List.Sublist.refl _) (List.Sublist.append (List.Sublist.refl _) (List.Sublist.append (List.Sublist.refl _) (List.Sublist.append (List.Sublist.refl _) ((((List.Sublist.refl _).trans (List.sublist_append_right _ _)).trans (List.sublist_append_right _ _)).trans (List.sublist_append_right _ _)))))))).trans (List.sublist_append_right _ _)).trans (List.sublist_append_right _ _)).trans (List.sublist_append_right _ _)))))), e53, rfl, rfl, rfl, hy140, hy143, hy146, hm758⟩
              · replace hm757 := if_f hb845 hm757
                refine PW_v 23 rfl (by kernel_rfl) (by kernel_rfl) (by kernel_rfl) (.inr ⟨22, false, 59, rfl, rfl, by decide, (congrArg Value.bool hb845)⟩) rfl (by decide) hSS (fun W hS => R_move (v := (.pointer (some ⟨b133, 0, none⟩))) rfl) ?_
                refine PW_v 24 rfl (by kernel_rfl) (by kernel_rfl) (by kernel_rfl) (.inr ⟨22, false, 59, rfl, rfl, by decide, (congrArg Value.bool hb845)⟩) rfl (by decide) hSS (fun W hS => R_move (v := v_a2) e54) ?_
                refine PW_v 26 rfl (by kernel_rfl) (by kernel_rfl) (by kernel_rfl) (.inr ⟨22, false, 59, rfl, rfl, by decide, (congrArg Value.bool hb845)⟩) rfl (by decide) hSS (fun W hS => R_field fa29_2 rfl) ?_
                refine PW_v 27 rfl (by kernel_rfl) (by kernel_rfl) (by kernel_rfl) (.inr ⟨22, false, 59, rfl, rfl, by decide, (congrArg Value.bool hb845)⟩) rfl (by decide) hSS (fun W hS => R_load (v := (.slice A122 r98.2.2.length c123)) rfl (load_box1 hS (.tail _ (.head _)) rfl Tryz.isAgg22)) ?_
                refine PW_v 28 rfl (by kernel_rfl) (by kernel_rfl) (by kernel_rfl) (.inr ⟨22, false, 59, rfl, rfl, by decide, (congrArg Value.bool hb845)⟩) rfl (by decide) hSS (fun W hS => R_lenRow Tryz.underlying22 rfl hy114) ?_
                refine PW_v 29 rfl (by kernel_rfl) (by kernel_rfl) (by kernel_rfl) (.inr ⟨22, false, 59, rfl, rfl, by decide, (congrArg Value.bool hb845)⟩) rfl (by decide) hSS (fun W hS => R_field fa29_2 rfl) ?_
                refine PW_v 30 rfl (by kernel_rfl) (by kernel_rfl) (by kernel_rfl) (.inr ⟨22, false, 59, rfl, rfl, by decide, (congrArg Value.bool hb845)⟩) rfl (by decide) hSS (fun W hS => R_load (v := (.slice A81 r57.2.2.length c82)) rfl (load_box1 hS (.tail _ (.tail _ (.head _))) rfl Tryz.isAgg22)) ?_
                refine PW_v 31 rfl (by kernel_rfl) (by kernel_rfl) (by kernel_rfl) (.inr ⟨22, false, 59, rfl, rfl, by decide, (congrArg Value.bool hb845)⟩) rfl (by decide) hSS (fun W hS => R_lenRow Tryz.underlying22 rfl hy73) ?_
                refine PW_v 32 rfl (by kernel_rfl) (by kernel_rfl) (by kernel_rfl) (.inr ⟨22, false, 59, rfl, rfl, by decide, (congrArg Value.bool hb845)⟩) rfl (by decide) hSS (fun W hS => R_int (k := .i64) (a := ((r98.2.2.length : Int))) (b := ((r57.2.2.length : Int))) (v := (.int .i64 ((IntKind.i64.wrap (((r98.2.2.length : Int)) - ((r57.2.2.length : Int))))))) rfl rfl rfl) ?_
                obtain ⟨r846, hr847, hm757⟩ := bind_some hm757
                replace hST : ST NoF w _ _ ((b133, Obj.cells (#[y134, y138, y141, y144] : Array Value) 122 (0, 0)) :: (S139 ++ (S142 ++ (S145 ++ ((b116, Obj.cells (#[(.slice A118 r98.1.length c119), (.slice A120 r98.2.1.length c121), (.slice A122 r98.2.2.length c123)] : Array Value) 29 (0, 0)) :: ((b75, Obj.cells (#[(.slice A77 r57.1.length c78), (.slice A79 r57.2.1.length c80), (.slice A81 r57.2.2.length c82)] : Array Value) 29 (0, 0)) :: (R840 ++ (R828 ++ (R816 ++ (S107 ++ (S110 ++ (S113 ++ (S66 ++ (S69 ++ (S72 ++ L50))))))))))))))) := hST.perm (permD [[(b133, Obj.cells (#[y134, y138, y141, y144] : Array Value) 122 (0, 0))], [(b116, Obj.cells (#[(.slice A118 r98.1.length c119), (.slice A120 r98.2.1.length c121), (.slice A122 r98.2.2.length c123)] : Array Value) 29 (0, 0))], [(b75, Obj.cells (#[(.slice A77 r57.1.length c78), (.slice A79 r57.2.1.length c80), (.slice A81 r57.2.2.length c82)] : Array Value) 29 (0, 0))], R840, R828, R816, S139, S142, S145] [0, 1, 2, 3, 4, 5, 6, 7, 8] [0, 6, 7, 8, 1, 2, 3, 4, 5] ((S107 ++ (S110 ++ (S113 ++ (S66 ++ (S69 ++ (S72 ++ L50))))))) (by decide) rfl rfl)
                have hsz := hST.size
                refine PW_e 25 rfl (by kernel_rfl) (.inr ⟨22, false, 59, rfl, rfl, by decide, (congrArg Value.bool hb845)⟩) rfl (by decide) (E_callM (args := [(.pointer (some ⟨b133, 0, none⟩)), v_a2]) (caps := #[]) (((b133, Obj.cells (#[y134, y138, y141, y144] : Array Value) 122 (0, 0)) :: (S139 ++ (S142 ++ (S145 ++ []))))) (((b116, Obj.cells (#[(.slice A118 r98.1.length c119), (.slice A120 r98.2.1.length c121), (.slice A122 r98.2.2.length c123)] : Array Value) 29 (0, 0)) :: ((b75, Obj.cells (#[(.slice A77 r57.1.length c78), (.slice A79 r57.2.1.length c80), (.slice A81 r57.2.2.length c82)] : Array Value) 29 (0, 0)) :: (R840 ++ (R828 ++ (R816 ++ (S107 ++ (S110 ++ (S113 ++ (S66 ++ (S69 ++ (S72 ++ L50)))))))))))) hST (by simp only [List.append_assoc, List.cons_append, List.nil_append]; exact List.Perm.refl _) rfl Tryz.call26 (by exact args2 rfl rfl) (fun hH hN hsb hmm => w_graph_Graph_Want_w b133 y134 r125.1 y138 r125.2.1 S139 y141 r125.2.2.1 S142 y144 r125.2.2.2 S145 v_a2 a2 _ _ hH hN (Sub.refl _) (hs137.mono (Pl.mono _) (((hle814.trans hle826).trans hle838).trans hsb)) hy140 hy143 hy146 (h_a2.mono (Pl.mono _) ((((((hle61.trans hle102).trans hle129).trans hle814).trans hle826).trans hle838).trans hsb)) hr847) (fun W848 v851 μ849 L853 hST hle850 hlift hK852 => ?_))
                obtain ⟨S854, S856, S858, hv860, rfl, hy855, hy857, hy859⟩ := hK852
                replace hv860 := hv860.symm; subst hv860
                simp only [List.append_assoc, List.cons_append, List.nil_append] at hST
                replace hST : ST NoF w _ _ ((b133, Obj.cells (#[y134, y138, y141, y144] : Array Value) 122 (0, 0)) :: ((b116, Obj.cells (#[(.slice A118 r98.1.length c119), (.slice A120 r98.2.1.length c121), (.slice A122 r98.2.2.length c123)] : Array Value) 29 (0, 0)) :: ((b75, Obj.cells (#[(.slice A77 r57.1.length c78), (.slice A79 r57.2.1.length c80), (.slice A81 r57.2.2.length c82)] : Array Value) 29 (0, 0)) :: (S854 ++ (S856 ++ (S858 ++ (R840 ++ (R828 ++ (R816 ++ (S107 ++ (S110 ++ (S113 ++ (S66 ++ (S69 ++ (S72 ++ L50))))))))))))))) := hST.perm (permD [[(b133, Obj.cells (#[y134, y138, y141, y144] : Array Value) 122 (0, 0))], S854, S856, S858, [(b116, Obj.cells (#[(.slice A118 r98.1.length c119), (.slice A120 r98.2.1.length c121), (.slice A122 r98.2.2.length c123)] : Array Value) 29 (0, 0))], [(b75, Obj.cells (#[(.slice A77 r57.1.length c78), (.slice A79 r57.2.1.length c80), (.slice A81 r57.2.2.length c82)] : Array Value) 29 (0, 0))]] [0, 1, 2, 3, 4, 5] [0, 4, 5, 1, 2, 3] ((R840 ++ (R828 ++ (R816 ++ (S107 ++ (S110 ++ (S113 ++ (S66 ++ (S69 ++ (S72 ++ L50)))))))))) (by decide) rfl rfl)
                have hSS : (Has μ128 ((b133, Obj.cells (#[y134, y138, y141, y144] : Array Value) 122 (0, 0)) :: ((b116, Obj.cells (#[(.slice A118 r98.1.length c119), (.slice A120 r98.2.1.length c121), (.slice A122 r98.2.2.length c123)] : Array Value) 29 (0, 0)) :: ((b75, Obj.cells (#[(.slice A77 r57.1.length c78), (.slice A79 r57.2.1.length c80), (.slice A81 r57.2.2.length c82)] : Array Value) 29 (0, 0)) :: (S107 ++ (S110 ++ (S113 ++ (S66 ++ (S69 ++ (S72 ++ []))))))))) _) := ((show ST NoF w _ _ ((b133, Obj.cells (#[y134, y138, y141, y144] : Array Value) 122 (0, 0)) :: ((b116, Obj.cells (#[(.slice A118 r98.1.length c119), (.slice A120 r98.2.1.length c121), (.slice A122 r98.2.2.length c123)] : Array Value) 29 (0, 0)) :: ((b75, Obj.cells (#[(.slice A77 r57.1.length c78), (.slice A79 r57.2.1.length c80), (.slice A81 r57.2.2.length c82)] : Array Value) 29 (0, 0)) :: (S854 ++ (S856 ++ (S858 ++ (R840 ++ (R828 ++ (R816 ++ (S107 ++ (S110 ++ (S113 ++ (S66 ++ (S69 ++ (S72 ++ L50))))))))))))))) from hST).has.sub (((hle814.trans hle826).trans hle838).trans hle850) (fun p hq => ((List.mem_cons.1 hq).elim (fun hq => by rw [hq]; exact (.head _)) (fun hq => ((List.mem_cons.1 hq).elim (fun hq => by rw [hq]; exact (.tail _ (.head _))) (fun hq => ((List.mem_cons.1 hq).elim (fun hq => by rw [hq]; exact (.tail _ (.tail _ (.head _)))) (fun hq => ((List.mem_append.1 hq).elim (fun hq => (.tail _ (.tail _ (.tail _ (List.mem_append_right _ (List.mem_append_right _ (List.mem_append_right _ (List.mem_append_right _ (List.mem_append_right _ (List.mem_append_right _ (List.mem_append_left _ hq))))))))))) (fun hq => ((List.mem_append.1 hq).elim (fun hq => (.tail _ (.tail _ (.tail _ (List.mem_append_right _ (List.mem_append_right _ (List.mem_append_right _ (List.mem_append_right _ (List.mem_append_right _ (List.mem_append_right _ (List.mem_append_right _ (List.mem_append_left _ hq)))))))))))) (fun hq => ((List.mem_append.1 hq).elim (fun hq => (.tail _ (.tail _ (.tail _ (List.mem_append_right _ (List.mem_append_right _ (List.mem_append_right _ (List.mem_append_right _ (List.mem_append_right _ (List.mem_append_right _ (List.mem_append_right _ (List.mem_append_right _ (List.mem_append_left _ hq))))))))))))) (fun hq => ((List.mem_append.1 hq).elim (fun hq => (.tail _ (.tail _ (.tail _ (List.mem_append_right _ (List.mem_append_right _ (List.mem_append_right _ (List.mem_append_right _ (List.mem_append_right _ (List.mem_append_right _ (List.mem_append_right _ (List.mem_append_right _ (List.mem_append_right _ (List.mem_append_left _ hq)))))))))))))) (fun hq => ((List.mem_append.1 hq).elim (fun hq => (.tail _ (.tail _ (.tail _ (List.mem_append_right _ (List.mem_append_right _ (List.mem_append_right _ (List.mem_append_right _ (List.mem_append_right _ (List.mem_append_right _ (List.mem_append_right _ (List.mem_append_right _ (List.mem_append_right _ (List.mem_append_right _ (List.mem_append_left _ hq))))))))))))))) (fun hq => ((List.mem_append.1 hq).elim (fun hq => (.tail _ (.tail _ (.tail _ (List.mem_append_right _ (List.mem_append_right _ (List.mem_append_right _ (List.mem_append_right _ (List.mem_append_right _ (List.mem_append_right _ (List.mem_append_right _ (List.mem_append_right _ (List.mem_append_right _ (List.mem_append_right _ (List.mem_append_right _ (List.mem_append_left _ hq)))))))))))))))) (fun hq => (absurd hq List.not_mem_nil)))))))))))))))))))))
                refine ⟨hSS, ?_⟩
                refine PW_v 33 rfl (by kernel_rfl) (by kernel_rfl) (by kernel_rfl) (.inr ⟨22, false, 59, rfl, rfl, by decide, (congrArg Value.bool hb845)⟩) rfl (by decide) hSS (fun W hS => R_int (k := .i64) (a := r846.1) (b := ((IntKind.i64.wrap (((r98.2.2.length : Int)) - ((r57.2.2.length : Int)))))) (v := (.bool ((r846.1 != ((IntKind.i64.wrap (((r98.2.2.length : Int)) - ((r57.2.2.length : Int))))))))) rfl rfl rfl) ?_
                refine PW_v 34 rfl (by kernel_rfl) (by kernel_rfl) (by kernel_rfl) (.inl rfl) rfl (by decide) hSS (fun W hS => R_pickF (v := (.bool ((r846.1 != ((IntKind.i64.wrap (((r98.2.2.length : Int)) - ((r57.2.2.length : Int))))))))) (congrArg Value.bool hb845) rfl) ?_
                refine PW_done (by kernel_rfl) ?_
                refine sq_n ?_
                replace hm757 := Option.some.inj hm757; subst hm757
                exact ⟨((r846.1 != ((IntKind.i64.wrap (((r98.2.2.length : Int)) - ((r57.2.2.length : Int))))))), r846.2.1, S854, r846.2.2.1, S856, r846.2.2.2, S858, μ849, _, (((hle814.trans hle826).trans hle838).trans hle850), (hST.sublist (List.Sublist.cons_cons _ (List.Sublist.cons_cons _ (List.Sublist.cons _ (List.Sublist.append (List.Sublist.refl _) (List.Sublist.append (List.Sublist.refl _) (List.Sublist.append (List.Sublist.refl _) ((((List.Sublist.append (List.Sublist.refl _) (List.Sublist.append (List.Sublist.refl _) (List.Sublist.append (List.Sublist.refl _) ((((List.Sublist.refl _).trans (List.sublist_append_right _ _)).trans (List.sublist_append_right _ _)).trans (List.sublist_append_right _ _))))).trans (List.sublist_append_right _ _)).trans (List.sublist_append_right _ _)).trans (List.sublist_append_right _ _))))))))), e53, rfl, rfl, rfl, hy855, hy857, hy859, hm758⟩
        · rintro E W ⟨x477, l478, R480, l481, R483, l484, R486, μ476, L487, hle489, hST, e490, e491, e492, e493, hs479, hs482, hs485, hm488⟩
          refine CW_if (b := x477) e493 (fun hb494 => ?_) (fun hb494 => ?_)
          · replace hm488 := if_t hb494 hm488
            refine CW_seq ?_
            refine CW_region ?_
            refine LW_v (.inl rfl) rfl (by decide) (R_assign (v := (.bool false)) rfl) ?_
            refine LW_nil ?_
            refine sq_n ?_
            replace hST : ST NoF w _ _ ((b133, Obj.cells (#[y134, y138, y141, y144] : Array Value) 122 (0, 0)) :: ((b116, Obj.cells (#[(.slice A118 r98.1.length c119), (.slice A120 r98.2.1.length c121), (.slice A122 r98.2.2.length c123)] : Array Value) 29 (0, 0)) :: (R480 ++ (R483 ++ (R486 ++ (S107 ++ (S110 ++ (S113 ++ L487)))))))) := hST
            replace hST : ST NoF w _ _ L487 := hST.sublist (List.Sublist.cons _ (List.Sublist.cons _ (((((((List.Sublist.refl _).trans (List.sublist_append_right _ _)).trans (List.sublist_append_right _ _)).trans (List.sublist_append_right _ _)).trans (List.sublist_append_right _ _)).trans (List.sublist_append_right _ _)).trans (List.sublist_append_right _ _))))
            refine CW_ret ?_
            refine sq_r ?_
            replace hm488 := Option.some.inj hm488; subst hm488
            refine retQ_1 (v := (.bool false)) rfl rfl ?_
            exact ⟨rfl, hST.ex⟩
          · replace hm488 := if_f hb494 hm488
            refine CW_skip ?_
            refine sq_n ?_
            refine CW_seq ?_
            refine CW_region ?_
            refine LW_v (.inl rfl) rfl (by decide) (R_assign (v := (.pointer none)) rfl) ?_
            refine LW_nil ?_
            refine sq_n ?_
            refine CW_seq ?_
            obtain ⟨s627, hm628, hm629⟩ := bind_some hm488
            refine CW_cut (fun E W => ∃ (x622 : Bool) (μ621 : Mem) (L623 : List (Nat × Obj)), Sub μ476 μ621 ∧ ST NoF w W μ621 L623 ∧ E 6 = (.bool x622) ∧ some x622 = some r) ?_ ?_
            · refine PW_start (Has μ476 ((b133, Obj.cells (#[y134, y138, y141, y144] : Array Value) 122 (0, 0)) :: ((b116, Obj.cells (#[(.slice A118 r98.1.length c119), (.slice A120 r98.2.1.length c121), (.slice A122 r98.2.2.length c123)] : Array Value) 29 (0, 0)) :: (R480 ++ (R483 ++ (R486 ++ (S107 ++ (S110 ++ (S113 ++ []))))))))) Tryz_mixed ?_
              replace hST := hST.drew
              have hSS : (Has μ476 ((b133, Obj.cells (#[y134, y138, y141, y144] : Array Value) 122 (0, 0)) :: ((b116, Obj.cells (#[(.slice A118 r98.1.length c119), (.slice A120 r98.2.1.length c121), (.slice A122 r98.2.2.length c123)] : Array Value) 29 (0, 0)) :: (R480 ++ (R483 ++ (R486 ++ (S107 ++ (S110 ++ (S113 ++ [])))))))) _) := ((show ST NoF w _ _ ((b133, Obj.cells (#[y134, y138, y141, y144] : Array Value) 122 (0, 0)) :: ((b116, Obj.cells (#[(.slice A118 r98.1.length c119), (.slice A120 r98.2.1.length c121), (.slice A122 r98.2.2.length c123)] : Array Value) 29 (0, 0)) :: (R480 ++ (R483 ++ (R486 ++ (S107 ++ (S110 ++ (S113 ++ L487)))))))) from hST).has.sub (Sub.refl _) (fun p hq => ((List.mem_cons.1 hq).elim (fun hq => by rw [hq]; exact (.head _)) (fun hq => ((List.mem_cons.1 hq).elim (fun hq => by rw [hq]; exact (.tail _ (.head _))) (fun hq => ((List.mem_append.1 hq).elim (fun hq => (.tail _ (.tail _ (List.mem_append_left _ hq)))) (fun hq => ((List.mem_append.1 hq).elim (fun hq => (.tail _ (.tail _ (List.mem_append_right _ (List.mem_append_left _ hq))))) (fun hq => ((List.mem_append.1 hq).elim (fun hq => (.tail _ (.tail _ (List.mem_append_right _ (List.mem_append_right _ (List.mem_append_left _ hq)))))) (fun hq => ((List.mem_append.1 hq).elim (fun hq => (.tail _ (.tail _ (List.mem_append_right _ (List.mem_append_right _ (List.mem_append_right _ (List.mem_append_left _ hq))))))) (fun hq => ((List.mem_append.1 hq).elim (fun hq => (.tail _ (.tail _ (List.mem_append_right _ (List.mem_append_right _ (List.mem_append_right _ (List.mem_append_right _ (List.mem_append_left _ hq)))))))) (fun hq => ((List.mem_append.1 hq).elim (fun hq => (.tail _ (.tail _ (List.mem_append_right _ (List.mem_append_right _ (List.mem_append_right _ (List.mem_append_right _ (List.mem_append_right _ (List.mem_append_left _ hq))))))))) (fun hq => (absurd hq List.not_mem_nil)))))))))))))))))))
              refine PW_v 0 rfl (by kernel_rfl) (by kernel_rfl) (by kernel_rfl) (.inl rfl) rfl (by decide) hSS (fun W hS => R_move (v := (.pointer (some ⟨b133, 0, none⟩))) e492) ?_
              refine PW_v 2 rfl (by kernel_rfl) (by kernel_rfl) (by kernel_rfl) (.inl rfl) rfl (by decide) hSS (fun W hS => R_field fa29_0 e491) ?_
              refine PW_v 3 rfl (by kernel_rfl) (by kernel_rfl) (by kernel_rfl) (.inl rfl) rfl (by decide) hSS (fun W hS => R_load (v := (.slice A118 r98.1.length c119)) rfl (load_box1 hS (.tail _ (.head _)) rfl Tryz.isAgg23)) ?_
              obtain ⟨r693, hr694, hm628⟩ := bind_some hm628
              replace hST : ST NoF w _ _ ((b133, Obj.cells (#[y134, y138, y141, y144] : Array Value) 122 (0, 0)) :: ((b116, Obj.cells (#[(.slice A118 r98.1.length c119), (.slice A120 r98.2.1.length c121), (.slice A122 r98.2.2.length c123)] : Array Value) 29 (0, 0)) :: (R480 ++ (R483 ++ (R486 ++ (S107 ++ (S110 ++ (S113 ++ L487)))))))) := hST
              have hsz := hST.size
              refine PW_e 1 rfl (by kernel_rfl) (.inl rfl) rfl (by decide) (E_givesRow (args := [(.pointer (some ⟨b133, 0, none⟩))]) [_, _] _ hST rfl Tryz.call21 (by exact args1 rfl) (w_graph_Graph_Targets b133 y134 r125.1 y138 l478 y141 l481 y144 l484 _ _ (hs137.mono (Pl.mono _) (hle489.trans hST.sub_hp)) (hs479.at (fun b o hq => hST.at_ (.tail _ (.tail _ (List.mem_append_left _ hq))))) (hs482.at (fun b o hq => hST.at_ (.tail _ (.tail _ (List.mem_append_right _ (List.mem_append_left _ hq)))))) (hs485.at (fun b o hq => hST.at_ (.tail _ (.tail _ (List.mem_append_right _ (List.mem_append_right _ (List.mem_append_left _ hq))))))) (At.of (hST.at_ (.head _)) _ rfl) hr694) (fun W695 v698 μ696 R699 hST hle697 hR700 => ?_))
              have hSS : (Has μ476 ((b133, Obj.cells (#[y134, y138, y141, y144] : Array Value) 122 (0, 0)) :: ((b116, Obj.cells (#[(.slice A118 r98.1.length c119), (.slice A120 r98.2.1.length c121), (.slice A122 r98.2.2.length c123)] : Array Value) 29 (0, 0)) :: (R480 ++ (R483 ++ (R486 ++ (S107 ++ (S110 ++ (S113 ++ [])))))))) _) := ((show ST NoF w _ _ ((b133, Obj.cells (#[y134, y138, y141, y144] : Array Value) 122 (0, 0)) :: ((b116, Obj.cells (#[(.slice A118 r98.1.length c119), (.slice A120 r98.2.1.length c121), (.slice A122 r98.2.2.length c123)] : Array Value) 29 (0, 0)) :: (R699 ++ (R480 ++ (R483 ++ (R486 ++ (S107 ++ (S110 ++ (S113 ++ L487))))))))) from hST).has.sub hle697 (fun p hq => ((List.mem_cons.1 hq).elim (fun hq => by rw [hq]; exact (.head _)) (fun hq => ((List.mem_cons.1 hq).elim (fun hq => by rw [hq]; exact (.tail _ (.head _))) (fun hq => ((List.mem_append.1 hq).elim (fun hq => (.tail _ (.tail _ (List.mem_append_right _ (List.mem_append_left _ hq))))) (fun hq => ((List.mem_append.1 hq).elim (fun hq => (.tail _ (.tail _ (List.mem_append_right _ (List.mem_append_right _ (List.mem_append_left _ hq)))))) (fun hq => ((List.mem_append.1 hq).elim (fun hq => (.tail _ (.tail _ (List.mem_append_right _ (List.mem_append_right _ (List.mem_append_right _ (List.mem_append_left _ hq))))))) (fun hq => ((List.mem_append.1 hq).elim (fun hq => (.tail _ (.tail _ (List.mem_append_right _ (List.mem_append_right _ (List.mem_append_right _ (List.mem_append_right _ (List.mem_append_left _ hq)))))))) (fun hq => ((List.mem_append.1 hq).elim (fun hq => (.tail _ (.tail _ (List.mem_append_right _ (List.mem_append_right _ (List.mem_append_right _ (List.mem_append_right _ (List.mem_append_right _ (List.mem_append_left _ hq))))))))) (fun hq => ((List.mem_append.1 hq).elim (fun hq => (.tail _ (.tail _ (List.mem_append_right _ (List.mem_append_right _ (List.mem_append_right _ (List.mem_append_right _ (List.mem_append_right _ (List.mem_append_right _ (List.mem_append_left _ hq)))))))))) (fun hq => (absurd hq List.not_mem_nil)))))))))))))))))))
              refine ⟨hSS, ?_⟩
              obtain ⟨r701, hr702, hm628⟩ := bind_some hm628
              replace hST : ST NoF w _ _ ((b133, Obj.cells (#[y134, y138, y141, y144] : Array Value) 122 (0, 0)) :: ((b116, Obj.cells (#[(.slice A118 r98.1.length c119), (.slice A120 r98.2.1.length c121), (.slice A122 r98.2.2.length c123)] : Array Value) 29 (0, 0)) :: (R699 ++ (R480 ++ (R483 ++ (R486 ++ (S107 ++ (S110 ++ (S113 ++ L487))))))))) := hST
              have hsz := hST.size
              refine PW_e 4 rfl (by kernel_rfl) (.inl rfl) rfl (by decide) (E_gives (args := [v698, (.slice A118 r98.1.length c119)]) hST rfl Tryz.call20 (by exact args2 rfl rfl) (w_ref04_Same v698 r693 (.slice A118 r98.1.length c119) r98.1 _ _ (hR700.sl lenRole (fun b o hq => hST.at_ (.tail _ (.tail _ (List.mem_append_left _ hq))))) (hy108.sl lenRole (fun b o hq => hST.at_ (.tail _ (.tail _ (List.mem_append_right _ (List.mem_append_right _ (List.mem_append_right _ (List.mem_append_right _ (List.mem_append_left _ hq))))))))) hr702) (fun W703 hST => ?_))
              have hSS : (Has μ476 ((b133, Obj.cells (#[y134, y138, y141, y144] : Array Value) 122 (0, 0)) :: ((b116, Obj.cells (#[(.slice A118 r98.1.length c119), (.slice A120 r98.2.1.length c121), (.slice A122 r98.2.2.length c123)] : Array Value) 29 (0, 0)) :: (R480 ++ (R483 ++ (R486 ++ (S107 ++ (S110 ++ (S113 ++ [])))))))) _) := ((show ST NoF w _ _ ((b133, Obj.cells (#[y134, y138, y141, y144] : Array Value) 122 (0, 0)) :: ((b116, Obj.cells (#[(.slice A118 r98.1.length c119), (.slice A120 r98.2.1.length c121), (.slice A122 r98.2.2.length c123)] : Array Value) 29 (0, 0)) :: (R699 ++ (R480 ++ (R483 ++ (R486 ++ (S107 ++ (S110 ++ (S113 ++ L487))))))))) from hST).has.sub hle697 (fun p hq => ((List.mem_cons.1 hq).elim (fun hq => by rw [hq]; exact (.head _)) (fun hq => ((List.mem_cons.1 hq).elim (fun hq => by rw [hq]; exact (.tail _ (.head _))) (fun hq => ((List.mem_append.1 hq).elim (fun hq => (.tail _ (.tail _ (List.mem_append_right _ (List.mem_append_left _ hq))))) (fun hq => ((List.mem_append.1 hq).elim (fun hq => (.tail _ (.tail _ (List.mem_append_right _ (List.mem_append_right _ (List.mem_append_left _ hq)))))) (fun hq => ((List.mem_append.1 hq).elim (fun hq => (.tail _ (.tail _ (List.mem_append_right _ (List.mem_append_right _ (List.mem_append_right _ (List.mem_append_left _ hq))))))) (fun hq => ((List.mem_append.1 hq).elim (fun hq => (.tail _ (.tail _ (List.mem_append_right _ (List.mem_append_right _ (List.mem_append_right _ (List.mem_append_right _ (List.mem_append_left _ hq)))))))) (fun hq => ((List.mem_append.1 hq).elim (fun hq => (.tail _ (.tail _ (List.mem_append_right _ (List.mem_append_right _ (List.mem_append_right _ (List.mem_append_right _ (List.mem_append_right _ (List.mem_append_left _ hq))))))))) (fun hq => ((List.mem_append.1 hq).elim (fun hq => (.tail _ (.tail _ (List.mem_append_right _ (List.mem_append_right _ (List.mem_append_right _ (List.mem_append_right _ (List.mem_append_right _ (List.mem_append_right _ (List.mem_append_left _ hq)))))))))) (fun hq => (absurd hq List.not_mem_nil)))))))))))))))))))
              refine ⟨hSS, ?_⟩
              refine PW_v 5 rfl (by kernel_rfl) (by kernel_rfl) (by kernel_rfl) (.inl rfl) rfl (by decide) hSS (fun W hS => R_move (v := (.bool r701)) rfl) ?_
              rcases bool_cases r701 with hb704 | hb704
              · replace hm628 := if_t hb704 hm628
                refine PW_v 6 rfl (by kernel_rfl) (by kernel_rfl) (by kernel_rfl) (.inr ⟨5, true, 77, rfl, rfl, by decide, (congrArg Value.bool hb704)⟩) rfl (by decide) hSS (fun W hS => R_move (v := (.pointer (some ⟨b133, 0, none⟩))) e492) ?_
                refine PW_v 8 rfl (by kernel_rfl) (by kernel_rfl) (by kernel_rfl) (.inr ⟨5, true, 77, rfl, rfl, by decide, (congrArg Value.bool hb704)⟩) rfl (by decide) hSS (fun W hS => R_field fa29_1 e491) ?_
                refine PW_v 9 rfl (by kernel_rfl) (by kernel_rfl) (by kernel_rfl) (.inr ⟨5, true, 77, rfl, rfl, by decide, (congrArg Value.bool hb704)⟩) rfl (by decide) hSS (fun W hS => R_load (v := (.slice A120 r98.2.1.length c121)) rfl (load_box1 hS (.tail _ (.head _)) rfl Tryz.isAgg27)) ?_
                obtain ⟨r705, hr706, hm628⟩ := bind_some hm628
                replace hST : ST NoF w _ _ ((b133, Obj.cells (#[y134, y138, y141, y144] : Array Value) 122 (0, 0)) :: ((b116, Obj.cells (#[(.slice A118 r98.1.length c119), (.slice A120 r98.2.1.length c121), (.slice A122 r98.2.2.length c123)] : Array Value) 29 (0, 0)) :: (R699 ++ (R480 ++ (R483 ++ (R486 ++ (S107 ++ (S110 ++ (S113 ++ L487))))))))) := hST
                have hsz := hST.size
                refine PW_e 7 rfl (by kernel_rfl) (.inr ⟨5, true, 77, rfl, rfl, by decide, (congrArg Value.bool hb704)⟩) rfl (by decide) (E_givesRow (args := [(.pointer (some ⟨b133, 0, none⟩))]) [_, _] _ hST rfl Tryz.call23 (by exact args1 rfl) (w_graph_Graph_Words b133 y134 r125.1 y138 l478 y141 l481 y144 l484 _ _ (hs137.mono (Pl.mono _) ((hle489.trans hle697).trans hST.sub_hp)) (hs479.at (fun b o hq => hST.at_ (.tail _ (.tail _ (List.mem_append_right _ (List.mem_append_left _ hq)))))) (hs482.at (fun b o hq => hST.at_ (.tail _ (.tail _ (List.mem_append_right _ (List.mem_append_right _ (List.mem_append_left _ hq))))))) (hs485.at (fun b o hq => hST.at_ (.tail _ (.tail _ (List.mem_append_right _ (List.mem_append_right _ (List.mem_append_right _ (List.mem_append_left _ hq)))))))) (At.of (hST.at_ (.head _)) _ rfl) hr706) (fun W707 v710 μ708 R711 hST hle709 hR712 => ?_))
                have hSS : (Has μ476 ((b133, Obj.cells (#[y134, y138, y141, y144] : Array Value) 122 (0, 0)) :: ((b116, Obj.cells (#[(.slice A118 r98.1.length c119), (.slice A120 r98.2.1.length c121), (.slice A122 r98.2.2.length c123)] : Array Value) 29 (0, 0)) :: (R480 ++ (R483 ++ (R486 ++ (S107 ++ (S110 ++ (S113 ++ [])))))))) _) := ((show ST NoF w _ _ ((b133, Obj.cells (#[y134, y138, y141, y144] : Array Value) 122 (0, 0)) :: ((b116, Obj.cells (#[(.slice A118 r98.1.length c119), (.slice A120 r98.2.1.length c121), (.slice A122 r98.2.2.length c123)] : Array Value) 29 (0, 0)) :: (R711 ++ (R699 ++ (R480 ++ (R483 ++ (R486 ++ (S107 ++ (S110 ++ (S113 ++ L487)))))))))) from hST).has.sub (hle697.trans hle709) (fun p hq => ((List.mem_cons.1 hq).elim (fun hq => by rw [hq]; exact (.head _)) (fun hq => ((List.mem_cons.1 hq).elim (fun hq => by rw [hq]; exact (.tail _ (.head _))) (fun hq => ((List.mem_append.1 hq).elim (fun hq => (.tail _ (.tail _ (List.mem_append_right _ (List.mem_append_right _ (List.mem_append_left _ hq)))))) (fun hq => ((List.mem_append.1 hq).elim (fun hq => (.tail _ (.tail _ (List.mem_append_right _ (List.mem_append_right _ (List.mem_append_right _ (List.mem_append_left _ hq))))))) (fun hq => ((List.mem_append.1 hq).elim (fun hq => (.tail _ (.tail _ (List.mem_append_right _ (List.mem_append_right _ (List.mem_append_right _ (List.mem_append_right _ (List.mem_append_left _ hq)))))))) (fun hq => ((List.mem_append.1 hq).elim (fun hq => (.tail _ (.tail _ (List.mem_append_right _ (List.mem_append_right _ (List.mem_append_right _ (List.mem_append_right _ (List.mem_append_right _ (List.mem_append_left _ hq))))))))) (fun hq => ((List.mem_append.1 hq).elim (fun hq => (.tail _ (.tail _ (List.mem_append_right _ (List.mem_append_right _ (List.mem_append_right _ (List.mem_append_right _ (List.mem_append_right _ (List.mem_append_right _ (List.mem_append_left _ hq)))))))))) (fun hq => ((List.mem_append.1 hq).elim (fun hq => (.tail _ (.tail _ (List.mem_append_right _ (List.mem_append_right _ (List.mem_append_right _ (List.mem_append_right _ (List.mem_append_right _ (List.mem_append_right _ (List.mem_append_right _ (List.mem_append_left _ hq))))))))))) (fun hq => (absurd hq List.not_mem_nil)))))))))))))))))))
                refine ⟨hSS, ?_⟩
                obtain ⟨r713, hr714, hm628⟩ := bind_some hm628
                replace hST : ST NoF w _ _ ((b133, Obj.cells (#[y134, y138, y141, y144] : Array Value) 122 (0, 0)) :: ((b116, Obj.cells (#[(.slice A118 r98.1.length c119), (.slice A120 r98.2.1.length c121), (.slice A122 r98.2.2.length c123)] : Array Value) 29 (0, 0)) :: (R711 ++ (R699 ++ (R480 ++ (R483 ++ (R486 ++ (S107 ++ (S110 ++ (S113 ++ L487)))))))))) := hST
                have hsz := hST.size
                refine PW_e 10 rfl (by kernel_rfl) (.inr ⟨5, true, 77, rfl, rfl, by decide, (congrArg Value.bool hb704)⟩) rfl (by decide) (E_gives (args := [v710, (.slice A120 r98.2.1.length c121)]) hST rfl Tryz.call22 (by exact args2 rfl rfl) (w_ref03_Same v710 r705 (.slice A120 r98.2.1.length c121) r98.2.1 _ _ (hR712.sl (fun _ => rfl) (fun b o hq => hST.at_ (.tail _ (.tail _ (List.mem_append_left _ hq))))) (hy111.sl (fun _ => rfl) (fun b o hq => hST.at_ (.tail _ (.tail _ (List.mem_append_right _ (List.mem_append_right _ (List.mem_append_right _ (List.mem_append_right _ (List.mem_append_right _ (List.mem_append_right _ (List.mem_append_left _ hq))))))))))) hr714) (fun W715 hST => ?_))
                have hSS : (Has μ476 ((b133, Obj.cells (#[y134, y138, y141, y144] : Array Value) 122 (0, 0)) :: ((b116, Obj.cells (#[(.slice A118 r98.1.length c119), (.slice A120 r98.2.1.length c121), (.slice A122 r98.2.2.length c123)] : Array Value) 29 (0, 0)) :: (R480 ++ (R483 ++ (R486 ++ (S107 ++ (S110 ++ (S113 ++ [])))))))) _) := ((show ST NoF w _ _ ((b133, Obj.cells (#[y134, y138, y141, y144] : Array Value) 122 (0, 0)) :: ((b116, Obj.cells (#[(.slice A118 r98.1.length c119), (.slice A120 r98.2.1.length c121), (.slice A122 r98.2.2.length c123)] : Array Value) 29 (0, 0)) :: (R711 ++ (R699 ++ (R480 ++ (R483 ++ (R486 ++ (S107 ++ (S110 ++ (S113 ++ L487)))))))))) from hST).has.sub (hle697.trans hle709) (fun p hq => ((List.mem_cons.1 hq).elim (fun hq => by rw [hq]; exact (.head _)) (fun hq => ((List.mem_cons.1 hq).elim (fun hq => by rw [hq]; exact (.tail _ (.head _))) (fun hq => ((List.mem_append.1 hq).elim (fun hq => (.tail _ (.tail _ (List.mem_append_right _ (List.mem_append_right _ (List.mem_append_left _ hq)))))) (fun hq => ((List.mem_append.1 hq).elim (fun hq => (.tail _ (.tail _ (List.mem_append_right _ (List.mem_append_right _ (List.mem_append_right _ (List.mem_append_left _ hq))))))) (fun hq => ((List.mem_append.1 hq).elim (fun hq => (.tail _ (.tail _ (List.mem_append_right _ (List.mem_append_right _ (List.mem_append_right _ (List.mem_append_right _ (List.mem_append_left _ hq)))))))) (fun hq => ((List.mem_append.1 hq).elim (fun hq => (.tail _ (.tail _ (List.mem_append_right _ (List.mem_append_right _ (List.mem_append_right _ (List.mem_append_right _ (List.mem_append_right _ (List.mem_append_left _ hq))))))))) (fun hq => ((List.mem_append.1 hq).elim (fun hq => (.tail _ (.tail _ (List.mem_append_right _ (List.mem_append_right _ (List.mem_append_right _ (List.mem_append_right _ (List.mem_append_right _ (List.mem_append_right _ (List.mem_append_left _ hq)))))))))) (fun hq => ((List.mem_append.1 hq).elim (fun hq => (.tail _ (.tail _ (List.mem_append_right _ (List.mem_append_right _ (List.mem_append_right _ (List.mem_append_right _ (List.mem_append_right _ (List.mem_append_right _ (List.mem_append_right _ (List.mem_append_left _ hq))))))))))) (fun hq => (absurd hq List.not_mem_nil)))))))))))))))))))
                refine ⟨hSS, ?_⟩
                refine PW_v 11 rfl (by kernel_rfl) (by kernel_rfl) (by kernel_rfl) (.inl rfl) rfl (by decide) hSS (fun W hS => R_pickT (v := (.bool r713)) (congrArg Value.bool hb704) rfl) ?_
                refine PW_v 12 rfl (by kernel_rfl) (by kernel_rfl) (by kernel_rfl) (.inl rfl) rfl (by decide) hSS (fun W hS => R_move (v := (.bool r713)) rfl) ?_
                rcases bool_cases r713 with hb716 | hb716
                · replace hm628 := if_t hb716 hm628
                  refine PW_v 13 rfl (by kernel_rfl) (by kernel_rfl) (by kernel_rfl) (.inr ⟨12, true, 84, rfl, rfl, by decide, (congrArg Value.bool hb716)⟩) rfl (by decide) hSS (fun W hS => R_move (v := (.pointer (some ⟨b133, 0, none⟩))) e492) ?_
                  refine PW_v 15 rfl (by kernel_rfl) (by kernel_rfl) (by kernel_rfl) (.inr ⟨12, true, 84, rfl, rfl, by decide, (congrArg Value.bool hb716)⟩) rfl (by decide) hSS (fun W hS => R_field fa29_2 e491) ?_
                  refine PW_v 16 rfl (by kernel_rfl) (by kernel_rfl) (by kernel_rfl) (.inr ⟨12, true, 84, rfl, rfl, by decide, (congrArg Value.bool hb716)⟩) rfl (by decide) hSS (fun W hS => R_load (v := (.slice A122 r98.2.2.length c123)) rfl (load_box1 hS (.tail _ (.head _)) rfl Tryz.isAgg22)) ?_
                  obtain ⟨r717, hr718, hm628⟩ := bind_some hm628
                  replace hST : ST NoF w _ _ ((b133, Obj.cells (#[y134, y138, y141, y144] : Array Value) 122 (0, 0)) :: ((b116, Obj.cells (#[(.slice A118 r98.1.length c119), (.slice A120 r98.2.1.length c121), (.slice A122 r98.2.2.length c123)] : Array Value) 29 (0, 0)) :: (R711 ++ (R699 ++ (R480 ++ (R483 ++ (R486 ++ (S107 ++ (S110 ++ (S113 ++ L487)))))))))) := hST
                  have hsz := hST.size
                  refine PW_e 14 rfl (by kernel_rfl) (.inr ⟨12, true, 84, rfl, rfl, by decide, (congrArg Value.bool hb716)⟩) rfl (by decide) (E_givesRow (args := [(.pointer (some ⟨b133, 0, none⟩))]) [_, _] _ hST rfl Tryz.call25 (by exact args1 rfl) (w_graph_Graph_Relevant b133 y134 r125.1 y138 l478 y141 l481 y144 l484 _ _ (hs137.mono (Pl.mono _) (((hle489.trans hle697).trans hle709).trans hST.sub_hp)) (hs479.at (fun b o hq => hST.at_ (.tail _ (.tail _ (List.mem_append_right _ (List.mem_append_right _ (List.mem_append_left _ hq))))))) (hs482.at (fun b o hq => hST.at_ (.tail _ (.tail _ (List.mem_append_right _ (List.mem_append_right _ (List.mem_append_right _ (List.mem_append_left _ hq)))))))) (hs485.at (fun b o hq => hST.at_ (.tail _ (.tail _ (List.mem_append_right _ (List.mem_append_right _ (List.mem_append_right _ (List.mem_append_right _ (List.mem_append_left _ hq))))))))) (At.of (hST.at_ (.head _)) _ rfl) hr718) (fun W719 v722 μ720 R723 hST hle721 hR724 => ?_))
                  have hSS : (Has μ476 ((b133, Obj.cells (#[y134, y138, y141, y144] : Array Value) 122 (0, 0)) :: ((b116, Obj.cells (#[(.slice A118 r98.1.length c119), (.slice A120 r98.2.1.length c121), (.slice A122 r98.2.2.length c123)] : Array Value) 29 (0, 0)) :: (R480 ++ (R483 ++ (R486 ++ (S107 ++ (S110 ++ (S113 ++ [])))))))) _) := ((show ST NoF w _ _ ((b133, Obj.cells (#[y134, y138, y141, y144] : Array Value) 122 (0, 0)) :: ((b116, Obj.cells (#[(.slice A118 r98.1.length c119), (.slice A120 r98.2.1.length c121), (.slice A122 r98.2.2.length c123)] : Array Value) 29 (0, 0)) :: (R723 ++ (R711 ++ (R699 ++ (R480 ++ (R483 ++ (R486 ++ (S107 ++ (S110 ++ (S113 ++ L487))))))))))) from hST).has.sub ((hle697.trans hle709).trans hle721) (fun p hq => ((List.mem_cons.1 hq).elim (fun hq => by rw [hq]; exact (.head _)) (fun hq => ((List.mem_cons.1 hq).elim (fun hq => by rw [hq]; exact (.tail _ (.head _))) (fun hq => ((List.mem_append.1 hq).elim (fun hq => (.tail _ (.tail _ (List.mem_append_right _ (List.mem_append_right _ (List.mem_append_right _ (List.mem_append_left _ hq))))))) (fun hq => ((List.mem_append.1 hq).elim (fun hq => (.tail _ (.tail _ (List.mem_append_right _ (List.mem_append_right _ (List.mem_append_right _ (List.mem_append_right _ (List.mem_append_left _ hq)))))))) (fun hq => ((List.mem_append.1 hq).elim (fun hq => (.tail _ (.tail _ (List.mem_append_right _ (List.mem_append_right _ (List.mem_append_right _ (List.mem_append_right _ (List.mem_append_right _ (List.mem_append_left _ hq))))))))) (fun hq => ((List.mem_append.1 hq).elim (fun hq => (.tail _ (.tail _ (List.mem_append_right _ (List.mem_append_right _ (List.mem_append_right _ (List.mem_append_right _ (List.mem_append_right _ (List.mem_append_right _ (List.mem_append_left _ hq)))))))))) (fun hq => ((List.mem_append.1 hq).elim (fun hq => (.tail _ (.tail _ (List.mem_append_right _ (List.mem_append_right _ (List.mem_append_right _ (List.mem_append_right _ (List.mem_append_right _ (List.mem_append_right _ (List.mem_append_right _ (List.mem_append_left _ hq))))))))))) (fun hq => ((List.mem_append.1 hq).elim (fun hq => (.tail _ (.tail _ (List.mem_append_right _ (List.mem_append_right _ (List.mem_append_right _ (List.mem_append_right _ (List.mem_append_right _ (List.mem_append_right _ (List.mem_append_right _ (List.mem_append_right _ (List.mem_append_left _ hq)))))))))))) (fun hq => (absurd hq List.not_mem_nil)))))))))))))))))))
                  refine ⟨hSS, ?_⟩
                  obtain ⟨r725, hr726, hm628⟩ := bind_some hm628
                  replace hST : ST NoF w _ _ ((b133, Obj.cells (#[y134, y138, y141, y144] : Array Value) 122 (0, 0)) :: ((b116, Obj.cells (#[(.slice A118 r98.1.length c119), (.slice A120 r98.2.1.length c121), (.slice A122 r98.2.2.length c123)] : Array Value) 29 (0, 0)) :: (R723 ++ (R711 ++ (R699 ++ (R480 ++ (R483 ++ (R486 ++ (S107 ++ (S110 ++ (S113 ++ L487))))))))))) := hST
                  have hsz := hST.size
                  refine PW_e 17 rfl (by kernel_rfl) (.inr ⟨12, true, 84, rfl, rfl, by decide, (congrArg Value.bool hb716)⟩) rfl (by decide) (E_gives (args := [v722, (.slice A122 r98.2.2.length c123)]) hST rfl Tryz.call24 (by exact args2 rfl rfl) (w_ref05_Same v722 r717 (.slice A122 r98.2.2.length c123) r98.2.2 _ _ (hR724.sl lenCred (fun b o hq => hST.at_ (.tail _ (.tail _ (List.mem_append_left _ hq))))) (hy114.sl lenCred (fun b o hq => hST.at_ (.tail _ (.tail _ (List.mem_append_right _ (List.mem_append_right _ (List.mem_append_right _ (List.mem_append_right _ (List.mem_append_right _ (List.mem_append_right _ (List.mem_append_right _ (List.mem_append_right _ (List.mem_append_left _ hq))))))))))))) hr726) (fun W727 hST => ?_))
                  have hSS : (Has μ476 ((b133, Obj.cells (#[y134, y138, y141, y144] : Array Value) 122 (0, 0)) :: ((b116, Obj.cells (#[(.slice A118 r98.1.length c119), (.slice A120 r98.2.1.length c121), (.slice A122 r98.2.2.length c123)] : Array Value) 29 (0, 0)) :: (R480 ++ (R483 ++ (R486 ++ (S107 ++ (S110 ++ (S113 ++ [])))))))) _) := ((show ST NoF w _ _ ((b133, Obj.cells (#[y134, y138, y141, y144] : Array Value) 122 (0, 0)) :: ((b116, Obj.cells (#[(.slice A118 r98.1.length c119), (.slice A120 r98.2.1.length c121), (.slice A122 r98.2.2.length c123)] : Array Value) 29 (0, 0)) :: (R723 ++ (R711 ++ (R699 ++ (R480 ++ (R483 ++ (R486 ++ (S107 ++ (S110 ++ (S113 ++ L487))))))))))) from hST).has.sub ((hle697.trans hle709).trans hle721) (fun p hq => ((List.mem_cons.1 hq).elim (fun hq => by rw [hq]; exact (.head _)) (fun hq => ((List.mem_cons.1 hq).elim (fun hq => by rw [hq]; exact (.tail _ (.head _))) (fun hq => ((List.mem_append.1 hq).elim (fun hq => (.tail _ (.tail _ (List.mem_append_right _ (List.mem_append_right _ (List.mem_append_right _ (List.mem_append_left _ hq))))))) (fun hq => ((List.mem_append.1 hq).elim (fun hq => (.tail _ (.tail _ (List.mem_append_right _ (List.mem_append_right _ (List.mem_append_right _ (List.mem_append_right _ (List.mem_append_left _ hq)))))))) (fun hq => ((List.mem_append.1 hq).elim (fun hq => (.tail _ (.tail _ (List.mem_append_right _ (List.mem_append_right _ (List.mem_append_right _ (List.mem_append_right _ (List.mem_append_right _ (List.mem_append_left _ hq))))))))) (fun hq => ((List.mem_append.1 hq).elim (fun hq => (.tail _ (.tail _ (List.mem_append_right _ (List.mem_append_right _ (List.mem_append_right _ (List.mem_append_right _ (List.mem_append_right _ (List.mem_append_right _ (List.mem_append_left _ hq)))))))))) (fun hq => ((List.mem_append.1 hq).elim (fun hq => (.tail _ (.tail _ (List.mem_append_right _ (List.mem_append_right _ (List.mem_append_right _ (List.mem_append_right _ (List.mem_append_right _ (List.mem_append_right _ (List.mem_append_right _ (List.mem_append_left _ hq))))))))))) (fun hq => ((List.mem_append.1 hq).elim (fun hq => (.tail _ (.tail _ (List.mem_append_right _ (List.mem_append_right _ (List.mem_append_right _ (List.mem_append_right _ (List.mem_append_right _ (List.mem_append_right _ (List.mem_append_right _ (List.mem_append_right _ (List.mem_append_left _ hq)))))))))))) (fun hq => (absurd hq List.not_mem_nil)))))))))))))))))))
                  refine ⟨hSS, ?_⟩
                  refine PW_v 18 rfl (by kernel_rfl) (by kernel_rfl) (by kernel_rfl) (.inl rfl) rfl (by decide) hSS (fun W hS => R_pickT (v := (.bool r725)) (congrArg Value.bool hb716) rfl) ?_
                  refine PW_v 19 rfl (by kernel_rfl) (by kernel_rfl) (by kernel_rfl) (.inl rfl) rfl (by decide) hSS (fun W hS => R_move (v := (.bool r725)) rfl) ?_
                  rcases bool_cases r725 with hb728 | hb728
                  · replace hm628 := if_t hb728 hm628
                    refine PW_v 20 rfl (by kernel_rfl) (by kernel_rfl) (by kernel_rfl) (.inr ⟨19, true, 91, rfl, rfl, by decide, (congrArg Value.bool hb728)⟩) rfl (by decide) hSS (fun W hS => R_move (v := (.pointer none)) rfl) ?_
                    refine PW_v 21 rfl (by kernel_rfl) (by kernel_rfl) (by kernel_rfl) (.inr ⟨19, true, 91, rfl, rfl, by decide, (congrArg Value.bool hb728)⟩) rfl (by decide) hSS (fun W hS => R_move (v := v_a1) e490) ?_
                    refine PW_v 23 rfl (by kernel_rfl) (by kernel_rfl) (by kernel_rfl) (.inr ⟨19, true, 91, rfl, rfl, by decide, (congrArg Value.bool hb728)⟩) rfl (by decide) hSS (fun W hS => R_move (v := (.pointer none)) rfl) ?_
                    refine PW_v 27 rfl (by kernel_rfl) (by kernel_rfl) (by kernel_rfl) (.inr ⟨19, true, 91, rfl, rfl, by decide, (congrArg Value.bool hb728)⟩) rfl (by decide) hSS (fun W hS => R_move (v := (.pointer none)) rfl) ?_
                    refine PW_v 31 rfl (by kernel_rfl) (by kernel_rfl) (by kernel_rfl) (.inr ⟨19, true, 91, rfl, rfl, by decide, (congrArg Value.bool hb728)⟩) rfl (by decide) hSS (fun W hS => R_move (v := (.pointer none)) rfl) ?_
                    obtain ⟨r729, hr730, hm628⟩ := bind_some hm628
                    replace hST : ST NoF w _ _ ((b133, Obj.cells (#[y134, y138, y141, y144] : Array Value) 122 (0, 0)) :: ((b116, Obj.cells (#[(.slice A118 r98.1.length c119), (.slice A120 r98.2.1.length c121), (.slice A122 r98.2.2.length c123)] : Array Value) 29 (0, 0)) :: (R723 ++ (R711 ++ (R699 ++ (R480 ++ (R483 ++ (R486 ++ (S107 ++ (S110 ++ (S113 ++ L487))))))))))) := hST
                    have hsz := hST.size
                    refine PW_e 22 rfl (by kernel_rfl) (.inr ⟨19, true, 91, rfl, rfl, by decide, (congrArg Value.bool hb728)⟩) rfl (by decide) (E_gives (args := [(.pointer none), v_a1]) hST rfl Tryz.call26 (by exact args2 rfl rfl) (w_graph_Graph_Want_nil v_a1 a1 _ _ (h_a1.mono (Pl.mono _) (((((((hle61.trans hle102).trans hle129).trans hle489).trans hle697).trans hle709).trans hle721).trans hST.sub_hp)) hr730) (fun W731 hST => ?_))
                    have hSS : (Has μ476 ((b133, Obj.cells (#[y134, y138, y141, y144] : Array Value) 122 (0, 0)) :: ((b116, Obj.cells (#[(.slice A118 r98.1.length c119), (.slice A120 r98.2.1.length c121), (.slice A122 r98.2.2.length c123)] : Array Value) 29 (0, 0)) :: (R480 ++ (R483 ++ (R486 ++ (S107 ++ (S110 ++ (S113 ++ [])))))))) _) := ((show ST NoF w _ _ ((b133, Obj.cells (#[y134, y138, y141, y144] : Array Value) 122 (0, 0)) :: ((b116, Obj.cells (#[(.slice A118 r98.1.length c119), (.slice A120 r98.2.1.length c121), (.slice A122 r98.2.2.length c123)] : Array Value) 29 (0, 0)) :: (R723 ++ (R711 ++ (R699 ++ (R480 ++ (R483 ++ (R486 ++ (S107 ++ (S110 ++ (S113 ++ L487))))))))))) from hST).has.sub ((hle697.trans hle709).trans hle721) (fun p hq => ((List.mem_cons.1 hq).elim (fun hq => by rw [hq]; exact (.head _)) (fun hq => ((List.mem_cons.1 hq).elim (fun hq => by rw [hq]; exact (.tail _ (.head _))) (fun hq => ((List.mem_append.1 hq).elim (fun hq => (.tail _ (.tail _ (List.mem_append_right _ (List.mem_append_right _ (List.mem_append_right _ (List.mem_append_left _ hq))))))) (fun hq => ((List.mem_append.1 hq).elim (fun hq => (.tail _ (.tail _ (List.mem_append_right _ (List.mem_append_right _ (List.mem_append_right _ (List.mem_append_right _ (List.mem_append_left _ hq)))))))) (fun hq => ((List.mem_append.1 hq).elim (fun hq => (.tail _ (.tail _ (List.mem_append_right _ (List.mem_append_right _ (List.mem_append_right _ (List.mem_append_right _ (List.mem_append_right _ (List.mem_append_left _ hq))))))))) (fun hq => ((List.mem_append.1 hq).elim (fun hq => (.tail _ (.tail _ (List.mem_append_right _ (List.mem_append_right _ (List.mem_append_right _ (List.mem_append_right _ (List.mem_append_right _ (List.mem_append_right _ (List.mem_append_left _ hq)))))))))) (fun hq => ((List.mem_append.1 hq).elim (fun hq => (.tail _ (.tail _ (List.mem_append_right _ (List.mem_append_right _ (List.mem_append_right _ (List.mem_append_right _ (List.mem_append_right _ (List.mem_append_right _ (List.mem_append_right _ (List.mem_append_left _ hq))))))))))) (fun hq => ((List.mem_append.1 hq).elim (fun hq => (.tail _ (.tail _ (List.mem_append_right _ (List.mem_append_right _ (List.mem_append_right _ (List.mem_append_right _ (List.mem_append_right _ (List.mem_append_right _ (List.mem_append_right _ (List.mem_append_right _ (List.mem_append_left _ hq)))))))))))) (fun hq => (absurd hq List.not_mem_nil)))))))))))))))))))
                    refine ⟨hSS, ?_⟩
                    obtain ⟨r732, hr733, hm628⟩ := bind_some hm628
                    replace hST : ST NoF w _ _ ((b133, Obj.cells (#[y134, y138, y141, y144] : Array Value) 122 (0, 0)) :: ((b116, Obj.cells (#[(.slice A118 r98.1.length c119), (.slice A120 r98.2.1.length c121), (.slice A122 r98.2.2.length c123)] : Array Value) 29 (0, 0)) :: (R723 ++ (R711 ++ (R699 ++ (R480 ++ (R483 ++ (R486 ++ (S107 ++ (S110 ++ (S113 ++ L487))))))))))) := hST
                    have hsz := hST.size
                    refine PW_e 24 rfl (by kernel_rfl) (.inr ⟨19, true, 91, rfl, rfl, by decide, (congrArg Value.bool hb728)⟩) rfl (by decide) (E_givesRow (args := [(.pointer none)]) [_, _] _ hST rfl Tryz.call21 (by exact args1 rfl) (w_graph_Graph_Targets_nil  _ _  hr733) (fun W734 v737 μ735 R738 hST hle736 hR739 => ?_))
                    have hSS : (Has μ476 ((b133, Obj.cells (#[y134, y138, y141, y144] : Array Value) 122 (0, 0)) :: ((b116, Obj.cells (#[(.slice A118 r98.1.length c119), (.slice A120 r98.2.1.length c121), (.slice A122 r98.2.2.length c123)] : Array Value) 29 (0, 0)) :: (R480 ++ (R483 ++ (R486 ++ (S107 ++ (S110 ++ (S113 ++ [])))))))) _) := ((show ST NoF w _ _ ((b133, Obj.cells (#[y134, y138, y141, y144] : Array Value) 122 (0, 0)) :: ((b116, Obj.cells (#[(.slice A118 r98.1.length c119), (.slice A120 r98.2.1.length c121), (.slice A122 r98.2.2.length c123)] : Array Value) 29 (0, 0)) :: (R738 ++ (R723 ++ (R711 ++ (R699 ++ (R480 ++ (R483 ++ (R486 ++ (S107 ++ (S110 ++ (S113 ++ L487)))))))))))) from hST).has.sub (((hle697.trans hle709).trans hle721).trans hle736) (fun p hq => ((List.mem_cons.1 hq).elim (fun hq => by rw [hq]; exact (.head _)) (fun hq => ((List.mem_cons.1 hq).elim (fun hq => by rw [hq]; exact (.tail _ (.head _))) (fun hq => ((List.mem_append.1 hq).elim (fun hq => (.tail _ (.tail _ (List.mem_append_right _ (List.mem_append_right _ (List.mem_append_right _ (List.mem_append_right _ (List.mem_append_left _ hq)))))))) (fun hq => ((List.mem_append.1 hq).elim (fun hq => (.tail _ (.tail _ (List.mem_append_right _ (List.mem_append_right _ (List.mem_append_right _ (List.mem_append_right _ (List.mem_append_right _ (List.mem_append_left _ hq))))))))) (fun hq => ((List.mem_append.1 hq).elim (fun hq => (.tail _ (.tail _ (List.mem_append_right _ (List.mem_append_right _ (List.mem_append_right _ (List.mem_append_right _ (List.mem_append_right _ (List.mem_append_right _ (List.mem_append_left _ hq)))))))))) (fun hq => ((List.mem_append.1 hq).elim (fun hq => (.tail _ (.tail _ (List.mem_append_right _ (List.mem_append_right _ (List.mem_append_right _ (List.mem_append_right _ (List.mem_append_right _ (List.mem_append_right _ (List.mem_append_right _ (List.mem_append_left _ hq))))))))))) (fun hq => ((List.mem_append.1 hq).elim (fun hq => (.tail _ (.tail _ (List.mem_append_right _ (List.mem_append_right _ (List.mem_append_right _ (List.mem_append_right _ (List.mem_append_right _ (List.mem_append_right _ (List.mem_append_right _ (List.mem_append_right _ (List.mem_append_left _ hq)))))))))))) (fun hq => ((List.mem_append.1 hq).elim (fun hq => (.tail _ (.tail _ (List.mem_append_right _ (List.mem_append_right _ (List.mem_append_right _ (List.mem_append_right _ (List.mem_append_right _ (List.mem_append_right _ (List.mem_append_right _ (List.mem_append_right _ (List.mem_append_right _ (List.mem_append_left _ hq))))))))))))) (fun hq => (absurd hq List.not_mem_nil)))))))))))))))))))
                    refine ⟨hSS, ?_⟩
                    refine PW_v 25 rfl (by kernel_rfl) (by kernel_rfl) (by kernel_rfl) (.inr ⟨19, true, 91, rfl, rfl, by decide, (congrArg Value.bool hb728)⟩) rfl (by decide) hSS (fun W hS => R_lenRow Tryz.underlying23 rfl hR739) ?_
                    refine PW_v 26 rfl (by kernel_rfl) (by kernel_rfl) (by kernel_rfl) (.inr ⟨19, true, 91, rfl, rfl, by decide, (congrArg Value.bool hb728)⟩) rfl (by decide) hSS (fun W hS => R_int (k := .i64) (a := r729) (b := ((r732.length : Int))) (v := (.int .i64 ((IntKind.i64.wrap (r729 + ((r732.length : Int))))))) rfl rfl rfl) ?_
                    obtain ⟨r740, hr741, hm628⟩ := bind_some hm628
                    replace hST : ST NoF w _ _ ((b133, Obj.cells (#[y134, y138, y141, y144] : Array Value) 122 (0, 0)) :: ((b116, Obj.cells (#[(.slice A118 r98.1.length c119), (.slice A120 r98.2.1.length c121), (.slice A122 r98.2.2.length c123)] : Array Value) 29 (0, 0)) :: (R738 ++ (R723 ++ (R711 ++ (R699 ++ (R480 ++ (R483 ++ (R486 ++ (S107 ++ (S110 ++ (S113 ++ L487)))))))))))) := hST
                    have hsz := hST.size
                    refine PW_e 28 rfl (by kernel_rfl) (.inr ⟨19, true, 91, rfl, rfl, by decide, (congrArg Value.bool hb728)⟩) rfl (by decide) (E_givesRow (args := [(.pointer none)]) [_, _] _ hST rfl Tryz.call23 (by exact args1 rfl) (w_graph_Graph_Words_nil  _ _  hr741) (fun W742 v745 μ743 R746 hST hle744 hR747 => ?_))
                    have hSS : (Has μ476 ((b133, Obj.cells (#[y134, y138, y141, y144] : Array Value) 122 (0, 0)) :: ((b116, Obj.cells (#[(.slice A118 r98.1.length c119), (.slice A120 r98.2.1.length c121), (.slice A122 r98.2.2.length c123)] : Array Value) 29 (0, 0)) :: (R480 ++ (R483 ++ (R486 ++ (S107 ++ (S110 ++ (S113 ++ [])))))))) _) := ((show ST NoF w _ _ ((b133, Obj.cells (#[y134, y138, y141, y144] : Array Value) 122 (0, 0)) :: ((b116, Obj.cells (#[(.slice A118 r98.1.length c119), (.slice A120 r98.2.1.length c121), (.slice A122 r98.2.2.length c123)] : Array Value) 29 (0, 0)) :: (R746 ++ (R738 ++ (R723 ++ (R711 ++ (R699 ++ (R480 ++ (R483 ++ (R486 ++ (S107 ++ (S110 ++ (S113 ++ L487))))))))))))) from hST).has.sub ((((hle697.trans hle709).trans hle721).trans hle736).trans hle744) (fun p hq => ((List.mem_cons.1 hq).elim (fun hq => by rw [hq]; exact (.head _)) (fun hq => ((List.mem_cons.1 hq).elim (fun hq => by rw [hq]; exact (.tail _ (.head _))) (fun hq => ((List.mem_append.1 hq).elim (fun hq => (.tail _ (.tail _ (List.mem_append_right _ (List.mem_append_right _ (List.mem_append_right _ (List.mem_append_right _ (List.mem_append_right _ (List.mem_append_left _ hq))))))))) (fun hq => ((List.mem_append.1 hq).elim (fun hq => (.tail _ (.tail _ (List.mem_append_right _ (List.mem_append_right _ (List.mem_append_right _ (List.mem_append_right _ (List.mem_append_right _ (List.mem_append_right _ (List.mem_append_left _ hq)))))))))) (fun hq => ((List.mem_append.1 hq).elim (fun hq => (.tail _ (.tail _ (List.mem_append_right _ (List.mem_append_right _ (List.mem_append_right _ (List.mem_append_right _ (List.mem_append_right _ (List.mem_append_right _ (List.mem_append_right _ (List.mem_append_left _ hq))))))))))) (fun hq => ((List.mem_append.1 hq).elim (fun hq => (.tail _ (.tail _ (List.mem_append_right _ (List.mem_append_right _ (List.mem_append_right _ (List.mem_append_right _ (List.mem_append_right _ (List.mem_append_right _ (List.mem_append_right _ (List.mem_append_right _ (List.mem_append_left _ hq)))))))))))) (fun hq => ((List.mem_append.1 hq).elim (fun hq => (.tail _ (.tail _ (List.mem_append_right _ (List.mem_append_right _ (List.mem_append_right _ (List.mem_append_right _ (List.mem_append_right _ (List.mem_append_right _ (List.mem_append_right _ (List.mem_append_right _ (List.mem_append_right _ (List.mem_append_left _ hq))))))))))))) (fun hq => ((List.mem_append.1 hq).elim (fun hq => (.tail _ (.tail _ (List.mem_append_right _ (List.mem_append_right _ (List.mem_append_right _ (List.mem_append_right _ (List.mem_append_right _ (List.mem_append_right _ (List.mem_append_right _ (List.mem_append_right _ (List.mem_append_right _ (List.mem_append_right _ (List.mem_append_left _ hq)))))))))))))) (fun hq => (absurd hq List.not_mem_nil)))))))))))))))))))
                    refine ⟨hSS, ?_⟩
                    refine PW_v 29 rfl (by kernel_rfl) (by kernel_rfl) (by kernel_rfl) (.inr ⟨19, true, 91, rfl, rfl, by decide, (congrArg Value.bool hb728)⟩) rfl (by decide) hSS (fun W hS => R_lenRow Tryz.underlying27 rfl hR747) ?_
                    refine PW_v 30 rfl (by kernel_rfl) (by kernel_rfl) (by kernel_rfl) (.inr ⟨19, true, 91, rfl, rfl, by decide, (congrArg Value.bool hb728)⟩) rfl (by decide) hSS (fun W hS => R_int (k := .i64) (a := ((IntKind.i64.wrap (r729 + ((r732.length : Int)))))) (b := ((r740.length : Int))) (v := (.int .i64 ((IntKind.i64.wrap (((IntKind.i64.wrap (r729 + ((r732.length : Int))))) + ((r740.length : Int))))))) rfl rfl rfl) ?_
                    obtain ⟨r748, hr749, hm628⟩ := bind_some hm628
                    replace hST : ST NoF w _ _ ((b133, Obj.cells (#[y134, y138, y141, y144] : Array Value) 122 (0, 0)) :: ((b116, Obj.cells (#[(.slice A118 r98.1.length c119), (.slice A120 r98.2.1.length c121), (.slice A122 r98.2.2.length c123)] : Array Value) 29 (0, 0)) :: (R746 ++ (R738 ++ (R723 ++ (R711 ++ (R699 ++ (R480 ++ (R483 ++ (R486 ++ (S107 ++ (S110 ++ (S113 ++ L487))))))))))))) := hST
                    have hsz := hST.size
                    refine PW_e 32 rfl (by kernel_rfl) (.inr ⟨19, true, 91, rfl, rfl, by decide, (congrArg Value.bool hb728)⟩) rfl (by decide) (E_givesRow (args := [(.pointer none)]) [_, _] _ hST rfl Tryz.call25 (by exact args1 rfl) (w_graph_Graph_Relevant_nil  _ _  hr749) (fun W750 v753 μ751 R754 hST hle752 hR755 => ?_))
                    have hSS : (Has μ476 ((b133, Obj.cells (#[y134, y138, y141, y144] : Array Value) 122 (0, 0)) :: ((b116, Obj.cells (#[(.slice A118 r98.1.length c119), (.slice A120 r98.2.1.length c121), (.slice A122 r98.2.2.length c123)] : Array Value) 29 (0, 0)) :: (R480 ++ (R483 ++ (R486 ++ (S107 ++ (S110 ++ (S113 ++ [])))))))) _) := ((show ST NoF w _ _ ((b133, Obj.cells (#[y134, y138, y141, y144] : Array Value) 122 (0, 0)) :: ((b116, Obj.cells (#[(.slice A118 r98.1.length c119), (.slice A120 r98.2.1.length c121), (.slice A122 r98.2.2.length c123)] : Array Value) 29 (0, 0)) :: (R754 ++ (R746 ++ (R738 ++ (R723 ++ (R711 ++ (R699 ++ (R480 ++ (R483 ++ (R486 ++ (S107 ++ (S110 ++ (S113 ++ L487)))))))))))))) from hST).has.sub (((((hle697.trans hle709).trans hle721).trans hle736).trans hle744).trans hle752) (fun p hq => ((List.mem_cons.1 hq).elim (fun hq => by rw [hq]; exact (.head _)) (fun hq => ((List.mem_cons.1 hq).elim (fun hq => by rw [hq]; exact (.tail _ (.head _))) (fun hq => ((List.mem_append.1 hq).elim (fun hq => (.tail _ (.tail _ (List.mem_append_right _ (List.mem_append_right _ (List.mem_append_right _ (List.mem_append_right _ (List.mem_append_right _ (List.mem_append_right _ (List.mem_append_left _ hq)))))))))) (fun hq => ((List.mem_append.1 hq).elim (fun hq => (.tail _ (.tail _ (List.mem_append_right _ (List.mem_append_right _ (List.mem_append_right _ (List.mem_append_right _ (List.mem_append_right _ (List.mem_append_right _ (List.mem_append_right _ (List.mem_append_left _ hq))))))))))) (fun hq => ((List.mem_append.1 hq).elim (fun hq => (.tail _ (.tail _ (List.mem_append_right _ (List.mem_append_right _ (List.mem_append_right _ (List.mem_append_right _ (List.mem_append_right _ (List.mem_append_right _ (List.mem_append_right _ (List.mem_append_right _ (List.mem_append_left _ hq)))))))))))) (fun hq => ((List.mem_append.1 hq).elim (fun hq => (.tail _ (.tail _ (List.mem_append_right _ (List.mem_append_right _ (List.mem_append_right _ (List.mem_append_right _ (List.mem_append_right _ (List.mem_append_right _ (List.mem_append_right _ (List.mem_append_right _ (List.mem_append_right _ (List.mem_append_left _ hq))))))))))))) (fun hq => ((List.mem_append.1 hq).elim (fun hq => (.tail _ (.tail _ (List.mem_append_right _ (List.mem_append_right _ (List.mem_append_right _ (List.mem_append_right _ (List.mem_append_right _ (List.mem_append_right _ (List.mem_append_right _ (List.mem_append_right _ (List.mem_append_right _ (List.mem_append_right _ (List.mem_append_left _ hq)))))))))))))) (fun hq => ((List.mem_append.1 hq).elim (fun hq => (.tail _ (.tail _ (List.mem_append_right _ (List.mem_append_right _ (List.mem_append_right _ (List.mem_append_right _ (List.mem_append_right _ (List.mem_append_right _ (List.mem_append_right _ (List.mem_append_right _ (List.mem_append_right _ (List.mem_append_right _ (List.mem_append_right _ (List.mem_append_left _ hq))))))))))))))) (fun hq => (absurd hq List.not_mem_nil)))))))))))))))))))
                    refine ⟨hSS, ?_⟩
                    refine PW_v 33 rfl (by kernel_rfl) (by kernel_rfl) (by kernel_rfl) (.inr ⟨19, true, 91, rfl, rfl, by decide, (congrArg Value.bool hb728)⟩) rfl (by decide) hSS (fun W hS => R_lenRow Tryz.underlying22 rfl hR755) ?_
                    refine PW_v 34 rfl (by kernel_rfl) (by kernel_rfl) (by kernel_rfl) (.inr ⟨19, true, 91, rfl, rfl, by decide, (congrArg Value.bool hb728)⟩) rfl (by decide) hSS (fun W hS => R_int (k := .i64) (a := ((IntKind.i64.wrap (((IntKind.i64.wrap (r729 + ((r732.length : Int))))) + ((r740.length : Int)))))) (b := ((r748.length : Int))) (v := (.int .i64 ((IntKind.i64.wrap (((IntKind.i64.wrap (((IntKind.i64.wrap (r729 + ((r732.length : Int))))) + ((r740.length : Int))))) + ((r748.length : Int))))))) rfl rfl rfl) ?_
                    refine PW_v 35 rfl (by kernel_rfl) (by kernel_rfl) (by kernel_rfl) (.inr ⟨19, true, 91, rfl, rfl, by decide, (congrArg Value.bool hb728)⟩) rfl (by decide) hSS (fun W hS => R_int (k := .i64) (a := ((IntKind.i64.wrap (((IntKind.i64.wrap (((IntKind.i64.wrap (r729 + ((r732.length : Int))))) + ((r740.length : Int))))) + ((r748.length : Int)))))) (b := 0) (v := (.bool ((((IntKind.i64.wrap (((IntKind.i64.wrap (((IntKind.i64.wrap (r729 + ((r732.length : Int))))) + ((r740.length : Int))))) + ((r748.length : Int))))) == 0)))) rfl rfl rfl) ?_
                    refine PW_v 36 rfl (by kernel_rfl) (by kernel_rfl) (by kernel_rfl) (.inl rfl) rfl (by decide) hSS (fun W hS => R_pickT (v := (.bool ((((IntKind.i64.wrap (((IntKind.i64.wrap (((IntKind.i64.wrap (r729 + ((r732.length : Int))))) + ((r740.length : Int))))) + ((r748.length : Int))))) == 0)))) (congrArg Value.bool hb728) rfl) ?_
                    refine PW_v 37 rfl (by kernel_rfl) (by kernel_rfl) (by kernel_rfl) (.inl rfl) rfl (by decide) hSS (fun W hS => R_assign (v := (.bool ((((IntKind.i64.wrap (((IntKind.i64.wrap (((IntKind.i64.wrap (r729 + ((r732.length : Int))))) + ((r740.length : Int))))) + ((r748.length : Int))))) == 0)))) rfl) ?_
                    refine PW_done (by kernel_rfl) ?_
                    refine sq_n ?_
                    replace hm628 := Option.some.inj hm628; subst hm628
                    exact ⟨((((IntKind.i64.wrap (((IntKind.i64.wrap (((IntKind.i64.wrap (r729 + ((r732.length : Int))))) + ((r740.length : Int))))) + ((r748.length : Int))))) == 0)), μ751, _, (((((hle697.trans hle709).trans hle721).trans hle736).trans hle744).trans hle752), (hST.sublist (List.Sublist.cons _ (List.Sublist.cons _ (((((((((((((List.Sublist.refl _).trans (List.sublist_append_right _ _)).trans (List.sublist_append_right _ _)).trans (List.sublist_append_right _ _)).trans (List.sublist_append_right _ _)).trans (List.sublist_append_right _ _)).trans (List.sublist_append_right _ _)).trans (List.sublist_append_right _ _)).trans (List.sublist_append_right _ _)).trans (List.sublist_append_right _ _)).trans (List.sublist_append_right _ _)).trans (List.sublist_append_right _ _)).trans (List.sublist_append_right _ _))))), rfl, hm629⟩
                  · replace hm628 := if_f hb728 hm628
                    refine PW_no 20 rfl (by kernel_rfl) (by kernel_rfl) (by kernel_rfl) rfl rfl (by decide) (congrArg Value.bool hb728) rfl (by decide) hSS ?_
                    refine PW_no 21 rfl (by kernel_rfl) (by kernel_rfl) (by kernel_rfl) rfl rfl (by decide) (congrArg Value.bool hb728) rfl (by decide) hSS ?_
                    refine PW_no 22 rfl (by kernel_rfl) (by kernel_rfl) (by kernel_rfl) rfl rfl (by decide) (congrArg Value.bool hb728) rfl (by decide) hSS ?_
                    refine PW_no 23 rfl (by kernel_rfl) (by kernel_rfl) (by kernel_rfl) rfl rfl (by decide) (congrArg Value.bool hb728) rfl (by decide) hSS ?_
                    refine PW_no 24 rfl (by kernel_rfl) (by kernel_rfl) (by kernel_rfl) rfl rfl (by decide) (congrArg Value.bool hb728) rfl (by decide) hSS ?_
                    refine PW_no 25 rfl (by kernel_rfl) (by kernel_rfl) (by kernel_rfl) rfl rfl (by decide) (congrArg Value.bool hb728) rfl (by decide) hSS ?_
                    refine PW_no 26 rfl (by kernel_rfl) (by kernel_rfl) (by kernel_rfl) rfl rfl (by decide) (congrArg Value.bool hb728) rfl (by decide) hSS ?_
                    refine PW_no 27 rfl (by kernel_rfl) (by kernel_rfl) (by kernel_rfl) rfl rfl (by decide) (congrArg Value.bool hb728) rfl (by decide) hSS ?_
                    refine PW_no 28 rfl (by kernel_rfl) (by kernel_rfl) (by kernel_rfl) rfl rfl (by decide) (congrArg Value.bool hb728) rfl (by decide) hSS ?_
                    refine PW_no 29 rfl (by kernel_rfl) (by kernel_rfl) (by kernel_rfl) rfl rfl (by decide) (congrArg Value.bool hb728) rfl (by decide) hSS ?_
                    refine PW_no 30 rfl (by kernel_rfl) (by kernel_rfl) (by kernel_rfl) rfl rfl (by decide) (congrArg Value.bool hb728) rfl (by decide) hSS ?_
                    refine PW_no 31 rfl (by kernel_rfl) (by kernel_rfl) (by kernel_rfl) rfl rfl (by decide) (congrArg Value.bool hb728) rfl (by decide) hSS ?_
                    refine PW_no 32 rfl (by kernel_rfl) (by kernel_rfl) (by kernel_rfl) rfl rfl (by decide) (congrArg Value.bool hb728) rfl (by decide) hSS ?_
                    refine PW_no 33 rfl (by kernel_rfl) (by kernel_rfl) (by kernel_rfl) rfl rfl (by decide) (congrArg Value.bool hb728) rfl (by decide) hSS ?_
                    refine PW_no 34 rfl (by kernel_rfl) (by kernel_rfl) (by kernel_rfl) rfl rfl (by decide) (congrArg Value.bool hb728) rfl (by decide) hSS ?_
                    refine PW_no 35 rfl (by kernel_rfl) (by kernel_rfl) (by kernel_rfl) rfl rfl (by decide) (congrArg Value.bool hb728) rfl (by decide) hSS ?_
                    refine PW_v 36 rfl (by kernel_rfl) (by kernel_rfl) (by kernel_rfl) (.inl rfl) rfl (by decide) hSS (fun W hS => R_pickF (v := (.bool false)) (congrArg Value.bool hb728) rfl) ?_
                    refine PW_v 37 rfl (by kernel_rfl) (by kernel_rfl) (by kernel_rfl) (.inl rfl) rfl (by decide) hSS (fun W hS => R_assign (v := (.bool false)) rfl) ?_
                    refine PW_done (by kernel_rfl) ?_
                    refine sq_n ?_
                    replace hm628 := Option.some.inj hm628; subst hm628
                    exact ⟨false, μ720, _, ((hle697.trans hle709).trans hle721), (hST.sublist (List.Sublist.cons _ (List.Sublist.cons _ ((((((((((List.Sublist.refl _).trans (List.sublist_append_right _ _)).trans (List.sublist_append_right _ _)).trans (List.sublist_append_right _ _)).trans (List.sublist_append_right _ _)).trans (List.sublist_append_right _ _)).trans (List.sublist_append_right _ _)).trans (List.sublist_append_right _ _)).trans (List.sublist_append_right _ _)).trans (List.sublist_append_right _ _))))), rfl, hm629⟩
                · replace hm628 := if_f hb716 hm628
                  refine PW_no 13 rfl (by kernel_rfl) (by kernel_rfl) (by kernel_rfl) rfl rfl (by decide) (congrArg Value.bool hb716) rfl (by decide) hSS ?_
                  refine PW_no 14 rfl (by kernel_rfl) (by kernel_rfl) (by kernel_rfl) rfl rfl (by decide) (congrArg Value.bool hb716) rfl (by decide) hSS ?_
                  refine PW_no 15 rfl (by kernel_rfl) (by kernel_rfl) (by kernel_rfl) rfl rfl (by decide) (congrArg Value.bool hb716) rfl (by decide) hSS ?_
                  refine PW_no 16 rfl (by kernel_rfl) (by kernel_rfl) (by kernel_rfl) rfl rfl (by decide) (congrArg Value.bool hb716) rfl (by decide) hSS ?_
                  refine PW_no 17 rfl (by kernel_rfl) (by kernel_rfl) (by kernel_rfl) rfl rfl (by decide) (congrArg Value.bool hb716) rfl (by decide) hSS ?_
                  refine PW_v 18 rfl (by kernel_rfl) (by kernel_rfl) (by kernel_rfl) (.inl rfl) rfl (by decide) hSS (fun W hS => R_pickF (v := (.bool false)) (congrArg Value.bool hb716) rfl) ?_
                  refine PW_v 19 rfl (by kernel_rfl) (by kernel_rfl) (by kernel_rfl) (.inl rfl) rfl (by decide) hSS (fun W hS => R_move (v := (.bool false)) rfl) ?_
                  refine PW_no 20 rfl (by kernel_rfl) (by kernel_rfl) (by kernel_rfl) rfl rfl (by decide) rfl rfl (by decide) hSS ?_
                  refine PW_no 21 rfl (by kernel_rfl) (by kernel_rfl) (by kernel_rfl) rfl rfl (by decide) rfl rfl (by decide) hSS ?_
                  refine PW_no 22 rfl (by kernel_rfl) (by kernel_rfl) (by kernel_rfl) rfl rfl (by decide) rfl rfl (by decide) hSS ?_
                  refine PW_no 23 rfl (by kernel_rfl) (by kernel_rfl) (by kernel_rfl) rfl rfl (by decide) rfl rfl (by decide) hSS ?_
                  refine PW_no 24 rfl (by kernel_rfl) (by kernel_rfl) (by kernel_rfl) rfl rfl (by decide) rfl rfl (by decide) hSS ?_
                  refine PW_no 25 rfl (by kernel_rfl) (by kernel_rfl) (by kernel_rfl) rfl rfl (by decide) rfl rfl (by decide) hSS ?_
                  refine PW_no 26 rfl (by kernel_rfl) (by kernel_rfl) (by kernel_rfl) rfl rfl (by decide) rfl rfl (by decide) hSS ?_
                  refine PW_no 27 rfl (by kernel_rfl) (by kernel_rfl) (by kernel_rfl) rfl rfl (by decide) rfl rfl (by decide) hSS ?_
                  refine PW_no 28 rfl (by kernel_rfl) (by kernel_rfl) (by kernel_rfl) rfl rfl (by decide) rfl rfl (by decide) hSS ?_
                  refine PW_no 29 rfl (by kernel_rfl) (by kernel_rfl) (by kernel_rfl) rfl rfl (by decide) rfl rfl (by decide) hSS ?_
                  refine PW_no 30 rfl (by kernel_rfl) (by kernel_rfl) (by kernel_rfl) rfl rfl (by decide) rfl rfl (by decide) hSS ?_
                  refine PW_no 31 rfl (by kernel_rfl) (by kernel_rfl) (by kernel_rfl) rfl rfl (by decide) rfl rfl (by decide) hSS ?_
                  refine PW_no 32 rfl (by kernel_rfl) (by kernel_rfl) (by kernel_rfl) rfl rfl (by decide) rfl rfl (by decide) hSS ?_
                  refine PW_no 33 rfl (by kernel_rfl) (by kernel_rfl) (by kernel_rfl) rfl rfl (by decide) rfl rfl (by decide) hSS ?_
                  refine PW_no 34 rfl (by kernel_rfl) (by kernel_rfl) (by kernel_rfl) rfl rfl (by decide) rfl rfl (by decide) hSS ?_
                  refine PW_no 35 rfl (by kernel_rfl) (by kernel_rfl) (by kernel_rfl) rfl rfl (by decide) rfl rfl (by decide) hSS ?_
                  refine PW_v 36 rfl (by kernel_rfl) (by kernel_rfl) (by kernel_rfl) (.inl rfl) rfl (by decide) hSS (fun W hS => R_pickF (v := (.bool false)) rfl rfl) ?_
                  refine PW_v 37 rfl (by kernel_rfl) (by kernel_rfl) (by kernel_rfl) (.inl rfl) rfl (by decide) hSS (fun W hS => R_assign (v := (.bool false)) rfl) ?_
                  refine PW_done (by kernel_rfl) ?_
                  refine sq_n ?_
                  replace hm628 := Option.some.inj hm628; subst hm628
                  exact ⟨false, μ708, _, (hle697.trans hle709), (hST.sublist (List.Sublist.cons _ (List.Sublist.cons _ (((((((((List.Sublist.refl _).trans (List.sublist_append_right _ _)).trans (List.sublist_append_right _ _)).trans (List.sublist_append_right _ _)).trans (List.sublist_append_right _ _)).trans (List.sublist_append_right _ _)).trans (List.sublist_append_right _ _)).trans (List.sublist_append_right _ _)).trans (List.sublist_append_right _ _))))), rfl, hm629⟩
              · replace hm628 := if_f hb704 hm628
                refine PW_no 6 rfl (by kernel_rfl) (by kernel_rfl) (by kernel_rfl) rfl rfl (by decide) (congrArg Value.bool hb704) rfl (by decide) hSS ?_
                refine PW_no 7 rfl (by kernel_rfl) (by kernel_rfl) (by kernel_rfl) rfl rfl (by decide) (congrArg Value.bool hb704) rfl (by decide) hSS ?_
                refine PW_no 8 rfl (by kernel_rfl) (by kernel_rfl) (by kernel_rfl) rfl rfl (by decide) (congrArg Value.bool hb704) rfl (by decide) hSS ?_
                refine PW_no 9 rfl (by kernel_rfl) (by kernel_rfl) (by kernel_rfl) rfl rfl (by decide) (congrArg Value.bool hb704) rfl (by decide) hSS ?_
                refine PW_no 10 rfl (by kernel_rfl) (by kernel_rfl) (by kernel_rfl) rfl rfl (by decide) (congrArg Value.bool hb704) rfl (by decide) hSS ?_
                refine PW_v 11 rfl (by kernel_rfl) (by kernel_rfl) (by kernel_rfl) (.inl rfl) rfl (by decide) hSS (fun W hS => R_pickF (v := (.bool false)) (congrArg Value.bool hb704) rfl) ?_
                refine PW_v 12 rfl (by kernel_rfl) (by kernel_rfl) (by kernel_rfl) (.inl rfl) rfl (by decide) hSS (fun W hS => R_move (v := (.bool false)) rfl) ?_
                refine PW_no 13 rfl (by kernel_rfl) (by kernel_rfl) (by kernel_rfl) rfl rfl (by decide) rfl rfl (by decide) hSS ?_
                refine PW_no 14 rfl (by kernel_rfl) (by kernel_rfl) (by kernel_rfl) rfl rfl (by decide) rfl rfl (by decide) hSS ?_
                refine PW_no 15 rfl (by kernel_rfl) (by kernel_rfl) (by kernel_rfl) rfl rfl (by decide) rfl rfl (by decide) hSS ?_
                refine PW_no 16 rfl (by kernel_rfl) (by kernel_rfl) (by kernel_rfl) rfl rfl (by decide) rfl rfl (by decide) hSS ?_
                refine PW_no 17 rfl (by kernel_rfl) (by kernel_rfl) (by kernel_rfl) rfl rfl (by decide) rfl rfl (by decide) hSS ?_
                refine PW_v 18 rfl (by kernel_rfl) (by kernel_rfl) (by kernel_rfl) (.inl rfl) rfl (by decide) hSS (fun W hS => R_pickF (v := (.bool false)) rfl rfl) ?_
                refine PW_v 19 rfl (by kernel_rfl) (by kernel_rfl) (by kernel_rfl) (.inl rfl) rfl (by decide) hSS (fun W hS => R_move (v := (.bool false)) rfl) ?_
                refine PW_no 20 rfl (by kernel_rfl) (by kernel_rfl) (by kernel_rfl) rfl rfl (by decide) rfl rfl (by decide) hSS ?_
                refine PW_no 21 rfl (by kernel_rfl) (by kernel_rfl) (by kernel_rfl) rfl rfl (by decide) rfl rfl (by decide) hSS ?_
                refine PW_no 22 rfl (by kernel_rfl) (by kernel_rfl) (by kernel_rfl) rfl rfl (by decide) rfl rfl (by decide) hSS ?_
                refine PW_no 23 rfl (by kernel_rfl) (by kernel_rfl) (by kernel_rfl) rfl rfl (by decide) rfl rfl (by decide) hSS ?_
                refine PW_no 24 rfl (by kernel_rfl) (by kernel_rfl) (by kernel_rfl) rfl rfl (by decide) rfl rfl (by decide) hSS ?_
                refine PW_no 25 rfl (by kernel_rfl) (by kernel_rfl) (by kernel_rfl) rfl rfl (by decide) rfl rfl (by decide) hSS ?_
                refine PW_no 26 rfl (by kernel_rfl) (by kernel_rfl) (by kernel_rfl) rfl rfl (by decide) rfl rfl (by decide) hSS ?_
                refine PW_no 27 rfl (by kernel_rfl) (by kernel_rfl) (by kernel_rfl) rfl rfl (by decide) rfl rfl (by decide) hSS ?_
                refine PW_no 28 rfl (by kernel_rfl) (by kernel_rfl) (by kernel_rfl) rfl rfl (by decide) rfl rfl (by decide) hSS ?_
                refine PW_no 29 rfl (by kernel_rfl) (by kernel_rfl) (by kernel_rfl) rfl rfl (by decide) rfl rfl (by decide) hSS ?_
                refine PW_no 30 rfl (by kernel_rfl) (by kernel_rfl) (by kernel_rfl) rfl rfl (by decide) rfl rfl (by decide) hSS ?_
                refine PW_no 31 rfl (by kernel_rfl) (by kernel_rfl) (by kernel_rfl) rfl rfl (by decide) rfl rfl (by decide) hSS ?_
                refine PW_no 32 rfl (by kernel_rfl) (by kernel_rfl) (by kernel_rfl) rfl rfl (by decide) rfl rfl (by decide) hSS ?_
                refine PW_no 33 rfl (by kernel_rfl) (by kernel_rfl) (by kernel_rfl) rfl rfl (by decide) rfl rfl (by decide) hSS ?_
                refine PW_no 34 rfl (by kernel_rfl) (by kernel_rfl) (by kernel_rfl) rfl rfl (by decide) rfl rfl (by decide) hSS ?_
                refine PW_no 35 rfl (by kernel_rfl) (by kernel_rfl) (by kernel_rfl) rfl rfl (by decide) rfl rfl (by decide) hSS ?_
                refine PW_v 36 rfl (by kernel_rfl) (by kernel_rfl) (by kernel_rfl) (.inl rfl) rfl (by decide) hSS (fun W hS => R_pickF (v := (.bool false)) rfl rfl) ?_
                refine PW_v 37 rfl (by kernel_rfl) (by kernel_rfl) (by kernel_rfl) (.inl rfl) rfl (by decide) hSS (fun W hS => R_assign (v := (.bool false)) rfl) ?_
                refine PW_done (by kernel_rfl) ?_
                refine sq_n ?_
                replace hm628 := Option.some.inj hm628; subst hm628
                exact ⟨false, μ696, _, hle697, (hST.sublist (List.Sublist.cons _ (List.Sublist.cons _ ((((((((List.Sublist.refl _).trans (List.sublist_append_right _ _)).trans (List.sublist_append_right _ _)).trans (List.sublist_append_right _ _)).trans (List.sublist_append_right _ _)).trans (List.sublist_append_right _ _)).trans (List.sublist_append_right _ _)).trans (List.sublist_append_right _ _))))), rfl, hm629⟩
            · rintro E W ⟨x622, μ621, L623, hle625, hST, e626, hm624⟩
              refine CW_ret ?_
              replace hm624 := Option.some.inj hm624; subst hm624
              refine retQ_1 (v := (.bool x622)) rfl e626 ?_
              exact ⟨rfl, hST.ex⟩

end Go.Proofs.YtfjdjbdnnoijgaaGreat
